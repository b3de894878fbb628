/-
  THE CHOICES OF A STEP: the second loop of guard.Danger.; DANGERS: the round over the positions of a step, in guard.Danger.; THE CHOICES OF A STEP, in guard.Danger: both loops, and the choices as contents.; SEQUENCES THAT CAN BE CARRIED OUT: sequence.Check.
-/
import Derived.Test.YtoiblgbaeglgoaaJX5
namespace Go.Proofs.Ytoiblgbaeglgoaa
open Go Go.Am
section
variable {P : Program} {w0 : World} {N0 : Nat} {k : List Fr} {Q : Exit → AS → Prop} {n nx ck : Nat} {mk : List (Nat × Nat)} {md : Md} {l : List (Nat × AV)} {hp : List (Nat × Nat × AObj)}
theorem zfc {a : Arg} {id sp off : Nat} {cs ws : List AV} {v : AV} (h : zbt a l = some (.mptr id sp off)) (hl : Am.look id hp = some (sp, .cells cs)) (hid : id < nx) (hv : cs.drop off = v :: ws) : iop (st n l hp nx ck mk) (.load none a) = some (v, st n l hp nx ck mk) := by
 have hd : (st n l hp nx ck mk).deref (.mptr id sp off) = some (v :: ws) := by
  simp only [AS.deref, show (st n l hp nx ck mk).heap = hp from rfl, hl]
  rw [if_pos ⟨trivial, hid⟩, hv]
 simp only [iop, zbi, h, hd]
end
structure Fit18 (m : Nat) (C : List (List Int)) (ks : List (Option Nat)) (E : List Bool) (r : List Sk) : Prop where
 hC : C.length = m
 hk : ks.length = m
 hE : E.length = m
 at' : ∀ s ∈ r, 0 ≤ s.a ∧ s.a < m ∧ (∃ e, C.getD s.a.toNat [] = [e]) ∧ ks.getD s.a.toNat none = some 1
 asc : ∃ z, zkf z r = 0
theorem Fit18.tail {m : Nat} {C : List (List Int)} {ks : List (Option Nat)} {E : List Bool} {s : Sk} {r : List Sk} (h : Fit18 m C ks E (s :: r)) (c : List Int) (o : Bool) : Fit18 m (C.set s.a.toNat c) (ks.set s.a.toNat none) (E.set s.a.toNat o) r := by
 obtain ⟨z, hz⟩ := h.asc
 have hr := zss r _ (zlq hz)
 obtain ⟨a0, a1, _⟩ := h.at' s (y05 ..)
 refine ⟨by rw [y1c]; exact h.hC, by rw [y1c]; exact h.hk, by rw [y1c]; exact h.hE, fun t ht => ?_, ⟨s.a, zlq hz⟩⟩
 obtain ⟨b0, b1, b2, b3⟩ := h.at' t (y04 _ ht)
 have hgt := hr t ht
 have hne : s.a.toNat ≠ t.a.toNat := by omega
 refine ⟨b0, b1, ?_, ?_⟩
 ·rw [y06, y1v hne, ← y06]; exact b2
 ·rw [y06, y1v hne, ← y06]; exact b3
theorem zy6 {n : Int} {E : List Bool} {p : Sp} (h : StpOk n E p) (hE : (E.length : Int) = n) : Fit18 E.length (chA E) (List.replicate E.length (some 1)) E p.l := by
 refine ⟨y09 .., y11 .., rfl, fun s hs => ?_, ⟨-1, yac h.sp⟩⟩
 obtain ⟨a0, a1⟩ := h.acts hE s hs
 have ha : s.a.toNat < E.length := by omega
 refine ⟨a0, a1, ⟨zj1 E[s.a.toNat], ?_⟩, ?_⟩
 ·unfold chA
  rw [y06, y0i, y07 ha]
  rfl
 ·rw [y06, List.getElem?_replicate, if_pos ha]
  rfl
section
variable {w0 : World} {N0 : Nat} {k : List Fr} {Q : Exit → AS → Prop}
theorem len1 {α : Type} {x : List α} (h : x.length = 1) : ∃ a0, x = [a0] := by
 match x, h with
 | [a0], _ => exact ⟨a0, rfl⟩
set_option maxHeartbeats 8000000 in
theorem loopB1 (f : List Ex) (n : Int) (l : List Sp) (i : Nat) (sk : List Sk) (hsk : sk.length ≤ 6) (w : Int) (C0 : List (List Int)) (k0 : List (Option Nat)) (E0 : List Bool) (q : Nat) {y : IC} (ok : Fit18 1 C0 k0 E0 sk)
  (fin : ∀ ks E2, ks.length = 1 → E2 = aft E0 sk → Zm Try.prog w0 N0 none y (st 97 (b18 f n l i sk w 1 [(13, .ms 5 0 1 0 1 none)]) (zc5 0 (zk3 E2 (chS C0 sk) ks) ++ zc8 (6 + 1) q) (q + (6 + 1)) 1 (zdz (6 + 1) q)) k Q) :
  Zm Try.prog w0 N0 none (.loop zly) (st 97 (b18 f n l i sk w 1 [(13, .ms 5 0 1 0 1 none), (58, .vs (cSs sk)), (59, .int .i64 (cSs sk).length), (60, .int .i64 ((0 : Nat) : Int))]) (zc5 0 (zk3 E0 C0 k0) ++ zc8 (6 + 1) q) (q + (6 + 1)) 1 (zdz (6 + 1) q)) (.blk 4 :: .seq y :: k) Q := by
 have hcs : (cSs sk).length = sk.length := zc3 sk
 refine zbu (fun mm S => ∃ j C ks E, mm = sk.length - j ∧ j ≤ sk.length ∧ Fit18 1 C ks E (sk.drop j) ∧ chS C0 sk = chS C (sk.drop j) ∧ aft E0 sk = aft E (sk.drop j) ∧ S = st 97 (b18 f n l i sk w 1 [(13, .ms 5 0 1 0 1 none), (58, .vs (cSs sk)), (59, .int .i64 (cSs sk).length), (60, .int .i64 ((j : Nat) : Int))]) (zc5 0 (zk3 E C ks) ++ zc8 (6 + 1) q) (q + (6 + 1)) 1 (zdz (6 + 1) q)) sk.length
  (zan (.cons rfl (.cons rfl (.cons rfl (.cons rfl (.cons rfl (.cons rfl (.cons rfl (.cons rfl (.cons rfl (.cons rfl (.cons rfl (.cons rfl (.cons rfl (.cons rfl (.cons rfl (.cons rfl .nil))))))))))))))))) ⟨0, C0, k0, E0, rfl, y0t _, ok, rfl, rfl, rfl⟩ ?_
 rintro mm S ⟨j, C, ks, E, rfl, hj, fit, hch, haf, rfl⟩
 obtain ⟨c0, rfl⟩ := len1 fit.hC
 obtain ⟨k0, rfl⟩ := len1 fit.hk
 obtain ⟨e0, rfl⟩ := len1 fit.hE
 unfold zly
 refine zsr rfl ?_
 refine zaq rfl rfl rfl (fun h3 => ?_) fun h3 => ?_
 ·have hlt : j < sk.length := by
   have : ((j : Nat) : Int) < ((cSs sk).length : Nat) := of_decide_eq_true h3
   rw [hcs] at this
   omega
  rw [y0g hlt] at fit hch haf
  have hg := zdo hlt
  generalize sk[j] = s at fit hch haf hg
  obtain ⟨a0, a1, ⟨e, hce⟩, hks⟩ := fit.at' s (y05 ..)
  have ft := fun c o => fit.tail c o
  clear fit
  obtain ⟨a, o⟩ := s
  have a0 : 0 ≤ a := a0
  have a1 : a < 1 := a1
  have hg : (cSs sk)[((j : Nat) : Int).toNat]? = some [.int .i64 a, .bool o] := hg
  rcases (show a = 0 by omega) with rfl
  ·have hce : c0 = [e] := hce
   have hks : k0 = some 1 := hks
   subst hce hks
   refine onu (za8 (zb4 rfl (zab (zaa (za8 (zac (zsr rfl (zbh rfl rfl (by omega) (by assumption) rfl (zam rfl rfl rfl rfl (zau ?_))))))))))
   refine zad rfl rfl rfl rfl zar rfl rfl ?_
   rw [zbr]
   refine onu ?_
   refine zq (zaj q (6 + 1)) (lvF [e0] [(some (5, 0), chM 6 [[e]] [some 1]), (some (6, 0), [.int .i64 e])]) [(q + (6 + 1), 1, [.int .i64 0, .bool o])] (b18 f n l i sk w 1 [(13, .ms 5 0 1 0 1 none), (58, .vs (cSs sk)), (59, .int .i64 (cSs sk).length), (60, .int .i64 ((j : Nat) : Int)), (17, .vptr [.int .i64 0, .bool o])]) rfl (.cons (by (repeat (first | rw [za0, if_neg (by omega)] | rw [za0, if_pos rfl] | rw [za2, if_neg (by omega)] | rw [za2, if_pos rfl])); try rfl) rfl .nil) (zfg rfl rfl rfl rfl rfl (.cons rfl (.cons (.ms rfl) .nil) (.cons rfl (.keep rfl) .nil))) (zh7 rfl rfl rfl rfl rfl rfl rfl rfl rfl rfl rfl rfl rfl rfl rfl rfl rfl (.cons rfl (.ms rfl) (.cons rfl (.same rfl) (.cons rfl (.same rfl) (.cons rfl (.same rfl) (.cons rfl (.fptr (by simp [fzl]) rfl) .nil)))))) ?_
   show Zm _ _ _ _ _ (st _ _ _ (q + (6 + 1)) 1 _) _ _
   obtain ⟨o', ho⟩ : ∃ o', o' = o := ⟨_, rfl⟩
   cases o
   all_goals
    repeat (first | refine za8 ?_ | refine za5 rfl ?_ | refine zai ?_ | refine zaa ?_ | refine zab ?_ | refine zb4 rfl ?_ | refine zb8 rfl ?_ | refine za1 rfl ?_ | refine za7 rfl rfl ?_ | refine zaw rfl rfl rfl ?_)
    refine ze4 env0_ok (fun d => Nat.beq d 76) (fun d => Nat.beq d 73) [] (fun x hx => absurd hx y0d) (fun _ => false) [] (fun x hx => absurd hx y0d) (fun _ => false) rfl rfl rfl ?_
    repeat (first | refine za1 rfl ?_ | refine za7 rfl rfl ?_ | refine zaw rfl rfl rfl ?_ | refine zb3 rfl rfl (by omega) (by omega) ?_)
    refine o_lo rfl (zfc (sp := 0) rfl rfl (by omega) rfl) ?_
    refine za1 rfl (za1 rfl ?_)
    refine zdh rfl rfl rfl rfl rfl ?_
    refine zc0 [[.int .i64 _], [.int .i64 _]] rfl rfl rfl (fun h => Nat.noConfusion h) rfl (by decide) rfl (y0c 1) (by show 1 + 2 ≤ _; omega) (by show 1 < 1 + 2; omega) ?_
    refine zb3 rfl rfl (by decide) (by decide) ?_
    refine zad (sp := 0) rfl rfl rfl rfl rfl rfl rfl ?_
    refine onR rfl (za1 rfl (zaw rfl rfl rfl (za7 rfl rfl (za1 rfl (zb3 rfl rfl (by omega) (by omega) (zad rfl rfl rfl rfl rfl rfl rfl (zai (zb7 (zaa (za5 rfl (zb6 (op := .add) rfl rfl rfl ?_)))))))))))
    refine za1 rfl (zai ?_)
    rw [zas j (by omega)]
    exact zav (show sk.length - (j + 1) < sk.length - j by omega) (sq (zaj q (6 + 1)) (lvF [o'] ((some (5, 0), chM 6 [[e] ++ zhp o'] [none]) :: [(some (q + (6 + 1), 1), ([e] ++ zhp o').map (AV.int .i64))])) [] rfl rfl rfl rfl .nil (by subst ho; exact (zfg rfl rfl rfl rfl rfl (.cons rfl (.cons (.ms rfl) .nil) (.cons (by (repeat (first | rw [za0, if_neg (by omega)] | rw [za0, if_pos rfl] | rw [za2, if_neg (by omega)] | rw [za2, if_pos rfl])); try rfl) (.keep rfl) .nil))))
     (l' := (b18 f n l i sk w 1 [(13, .ms 5 0 1 0 1 none), (58, .vs (cSs sk)), (59, .int .i64 (cSs sk).length), (60, .int .i64 ((j + 1 : Nat) : Int))])) (zh7 rfl rfl rfl rfl rfl rfl rfl rfl rfl rfl rfl rfl rfl rfl rfl rfl rfl (.cons rfl (.ms rfl) (.cons rfl (.same rfl) (.cons rfl (.same rfl) (.cons rfl (.same rfl) .nil)))))) (by subst ho; exact ⟨j + 1, _, [none], _, rfl, hlt, ft ([e] ++ zhp _) _, hch, haf, rfl⟩)
 ·have hj2 : j = sk.length := by
   have : ¬ ((j : Nat) : Int) < ((cSs sk).length : Nat) := of_decide_eq_false h3
   rw [hcs] at this
   omega
  subst hj2
  rw [y0s] at hch haf
  refine onu (za8 (zb8 rfl (zbm (zao ?_))))
  refine zcn (zbl (zaa ?_))
  have := fin [k0] [e0] rfl haf.symm
  rw [hch] at this
  exact zf0 (zan (.cons rfl (.cons rfl (.cons rfl (.cons rfl (.cons rfl (.cons rfl (.cons rfl (.cons rfl (.cons rfl (.cons rfl (.cons rfl (.cons rfl (.cons rfl .nil)))))))))))))) this
theorem len2 {α : Type} {x : List α} (h : x.length = 2) : ∃ a0 a1, x = [a0, a1] := by
 match x, h with
 | [a0, a1], _ => exact ⟨a0, a1, rfl⟩
set_option maxHeartbeats 8000000 in
theorem loopB2 (f : List Ex) (n : Int) (l : List Sp) (i : Nat) (sk : List Sk) (hsk : sk.length ≤ 6) (w : Int) (C0 : List (List Int)) (k0 : List (Option Nat)) (E0 : List Bool) (q : Nat) {y : IC} (ok : Fit18 2 C0 k0 E0 sk)
  (fin : ∀ ks E2, ks.length = 2 → E2 = aft E0 sk → Zm Try.prog w0 N0 none y (st 97 (b18 f n l i sk w 2 [(13, .ms 5 0 1 0 2 none)]) (zc5 0 (zk3 E2 (chS C0 sk) ks) ++ zc8 (6 + 2) q) (q + (6 + 2)) 1 (zdz (6 + 2) q)) k Q) :
  Zm Try.prog w0 N0 none (.loop zly) (st 97 (b18 f n l i sk w 2 [(13, .ms 5 0 1 0 2 none), (58, .vs (cSs sk)), (59, .int .i64 (cSs sk).length), (60, .int .i64 ((0 : Nat) : Int))]) (zc5 0 (zk3 E0 C0 k0) ++ zc8 (6 + 2) q) (q + (6 + 2)) 1 (zdz (6 + 2) q)) (.blk 4 :: .seq y :: k) Q := by
 have hcs : (cSs sk).length = sk.length := zc3 sk
 refine zbu (fun mm S => ∃ j C ks E, mm = sk.length - j ∧ j ≤ sk.length ∧ Fit18 2 C ks E (sk.drop j) ∧ chS C0 sk = chS C (sk.drop j) ∧ aft E0 sk = aft E (sk.drop j) ∧ S = st 97 (b18 f n l i sk w 2 [(13, .ms 5 0 1 0 2 none), (58, .vs (cSs sk)), (59, .int .i64 (cSs sk).length), (60, .int .i64 ((j : Nat) : Int))]) (zc5 0 (zk3 E C ks) ++ zc8 (6 + 2) q) (q + (6 + 2)) 1 (zdz (6 + 2) q)) sk.length
  (zan (.cons rfl (.cons rfl (.cons rfl (.cons rfl (.cons rfl (.cons rfl (.cons rfl (.cons rfl (.cons rfl (.cons rfl (.cons rfl (.cons rfl (.cons rfl (.cons rfl (.cons rfl (.cons rfl .nil))))))))))))))))) ⟨0, C0, k0, E0, rfl, y0t _, ok, rfl, rfl, rfl⟩ ?_
 rintro mm S ⟨j, C, ks, E, rfl, hj, fit, hch, haf, rfl⟩
 obtain ⟨c0, c1, rfl⟩ := len2 fit.hC
 obtain ⟨k0, k1, rfl⟩ := len2 fit.hk
 obtain ⟨e0, e1, rfl⟩ := len2 fit.hE
 unfold zly
 refine zsr rfl ?_
 refine zaq rfl rfl rfl (fun h3 => ?_) fun h3 => ?_
 ·have hlt : j < sk.length := by
   have : ((j : Nat) : Int) < ((cSs sk).length : Nat) := of_decide_eq_true h3
   rw [hcs] at this
   omega
  rw [y0g hlt] at fit hch haf
  have hg := zdo hlt
  generalize sk[j] = s at fit hch haf hg
  obtain ⟨a0, a1, ⟨e, hce⟩, hks⟩ := fit.at' s (y05 ..)
  have ft := fun c o => fit.tail c o
  clear fit
  obtain ⟨a, o⟩ := s
  have a0 : 0 ≤ a := a0
  have a1 : a < 2 := a1
  have hg : (cSs sk)[((j : Nat) : Int).toNat]? = some [.int .i64 a, .bool o] := hg
  rcases (show a = 0 ∨ a = 1 by omega) with rfl | rfl
  ·have hce : c0 = [e] := hce
   have hks : k0 = some 1 := hks
   subst hce hks
   refine onu (za8 (zb4 rfl (zab (zaa (za8 (zac (zsr rfl (zbh rfl rfl (by omega) (by assumption) rfl (zam rfl rfl rfl rfl (zau ?_))))))))))
   refine zad rfl rfl rfl rfl zar rfl rfl ?_
   rw [zbr]
   refine onu ?_
   refine zq (zaj q (6 + 2)) (lvF [e0, e1] [(some (5, 0), chM 6 [[e], c1] [some 1, k1]), (some (6, 0), [.int .i64 e]), (some (7, 0), c1.map (AV.int .i64))]) [(q + (6 + 2), 1, [.int .i64 0, .bool o])] (b18 f n l i sk w 2 [(13, .ms 5 0 1 0 2 none), (58, .vs (cSs sk)), (59, .int .i64 (cSs sk).length), (60, .int .i64 ((j : Nat) : Int)), (17, .vptr [.int .i64 0, .bool o])]) rfl (.cons (by (repeat (first | rw [za0, if_neg (by omega)] | rw [za0, if_pos rfl] | rw [za2, if_neg (by omega)] | rw [za2, if_pos rfl])); try rfl) rfl .nil) (zfg rfl rfl rfl rfl rfl (.cons rfl (.cons (.ms rfl) (.cons (.ms rfl) .nil)) (.cons rfl (.keep rfl) (.cons rfl (.keep (zah _)) .nil)))) (zh7 rfl rfl rfl rfl rfl rfl rfl rfl rfl rfl rfl rfl rfl rfl rfl rfl rfl (.cons rfl (.ms rfl) (.cons rfl (.same rfl) (.cons rfl (.same rfl) (.cons rfl (.same rfl) (.cons rfl (.fptr (by simp [fzl]) rfl) .nil)))))) ?_
   show Zm _ _ _ _ _ (st _ _ _ (q + (6 + 2)) 1 _) _ _
   obtain ⟨o', ho⟩ : ∃ o', o' = o := ⟨_, rfl⟩
   cases o
   all_goals
    repeat (first | refine za8 ?_ | refine za5 rfl ?_ | refine zai ?_ | refine zaa ?_ | refine zab ?_ | refine zb4 rfl ?_ | refine zb8 rfl ?_ | refine za1 rfl ?_ | refine za7 rfl rfl ?_ | refine zaw rfl rfl rfl ?_)
    refine ze4 env0_ok (fun d => Nat.beq d 76) (fun d => Nat.beq d 73) [] (fun x hx => absurd hx y0d) (fun _ => false) [] (fun x hx => absurd hx y0d) (fun _ => false) rfl rfl rfl ?_
    repeat (first | refine za1 rfl ?_ | refine za7 rfl rfl ?_ | refine zaw rfl rfl rfl ?_ | refine zb3 rfl rfl (by omega) (by omega) ?_)
    refine o_lo rfl (zfc (sp := 0) rfl rfl (by omega) rfl) ?_
    refine za1 rfl (za1 rfl ?_)
    refine zdh rfl rfl rfl rfl rfl ?_
    refine zc0 [[.int .i64 _], [.int .i64 _]] rfl rfl rfl (fun h => Nat.noConfusion h) rfl (by decide) rfl (y0c 1) (by show 1 + 2 ≤ _; omega) (by show 1 < 1 + 2; omega) ?_
    refine zb3 rfl rfl (by decide) (by decide) ?_
    refine zad (sp := 0) rfl rfl rfl rfl rfl rfl rfl ?_
    refine onR rfl (za1 rfl (zaw rfl rfl rfl (za7 rfl rfl (za1 rfl (zb3 rfl rfl (by omega) (by omega) (zad rfl rfl rfl rfl rfl rfl rfl (zai (zb7 (zaa (za5 rfl (zb6 (op := .add) rfl rfl rfl ?_)))))))))))
    refine za1 rfl (zai ?_)
    rw [zas j (by omega)]
    exact zav (show sk.length - (j + 1) < sk.length - j by omega) (sq (zaj q (6 + 2)) (lvF [o', e1] ((some (5, 0), chM 6 [[e] ++ zhp o', c1] [none, k1]) :: [(some (q + (6 + 2), 1), ([e] ++ zhp o').map (AV.int .i64)), (some (7, 0), c1.map (AV.int .i64))])) [] rfl rfl rfl rfl .nil (by subst ho; exact (zfg rfl rfl rfl rfl rfl (.cons rfl (.cons (.ms rfl) (.cons (.ms rfl) .nil)) (.cons (by (repeat (first | rw [za0, if_neg (by omega)] | rw [za0, if_pos rfl] | rw [za2, if_neg (by omega)] | rw [za2, if_pos rfl])); try rfl) (.keep rfl) (.cons rfl (.keep (zah _)) .nil)))))
     (l' := (b18 f n l i sk w 2 [(13, .ms 5 0 1 0 2 none), (58, .vs (cSs sk)), (59, .int .i64 (cSs sk).length), (60, .int .i64 ((j + 1 : Nat) : Int))])) (zh7 rfl rfl rfl rfl rfl rfl rfl rfl rfl rfl rfl rfl rfl rfl rfl rfl rfl (.cons rfl (.ms rfl) (.cons rfl (.same rfl) (.cons rfl (.same rfl) (.cons rfl (.same rfl) .nil)))))) (by subst ho; exact ⟨j + 1, _, [none, k1], _, rfl, hlt, ft ([e] ++ zhp _) _, hch, haf, rfl⟩)
  ·have hce : c1 = [e] := hce
   have hks : k1 = some 1 := hks
   subst hce hks
   refine onu (za8 (zb4 rfl (zab (zaa (za8 (zac (zsr rfl (zbh rfl rfl (by omega) (by assumption) rfl (zam rfl rfl rfl rfl (zau ?_))))))))))
   refine zad rfl rfl rfl rfl zar rfl rfl ?_
   rw [zbr]
   refine onu ?_
   refine zq (zaj q (6 + 2)) (lvF [e0, e1] [(some (5, 0), chM 6 [c0, [e]] [k0, some 1]), (some (6, 0), c0.map (AV.int .i64)), (some (7, 0), [.int .i64 e])]) [(q + (6 + 2), 1, [.int .i64 1, .bool o])] (b18 f n l i sk w 2 [(13, .ms 5 0 1 0 2 none), (58, .vs (cSs sk)), (59, .int .i64 (cSs sk).length), (60, .int .i64 ((j : Nat) : Int)), (17, .vptr [.int .i64 1, .bool o])]) rfl (.cons (by (repeat (first | rw [za0, if_neg (by omega)] | rw [za0, if_pos rfl] | rw [za2, if_neg (by omega)] | rw [za2, if_pos rfl])); try rfl) rfl .nil) (zfg rfl rfl rfl rfl rfl (.cons rfl (.cons (.ms rfl) (.cons (.ms rfl) .nil)) (.cons rfl (.keep (zah _)) (.cons rfl (.keep rfl) .nil)))) (zh7 rfl rfl rfl rfl rfl rfl rfl rfl rfl rfl rfl rfl rfl rfl rfl rfl rfl (.cons rfl (.ms rfl) (.cons rfl (.same rfl) (.cons rfl (.same rfl) (.cons rfl (.same rfl) (.cons rfl (.fptr (by simp [fzl]) rfl) .nil)))))) ?_
   show Zm _ _ _ _ _ (st _ _ _ (q + (6 + 2)) 1 _) _ _
   obtain ⟨o', ho⟩ : ∃ o', o' = o := ⟨_, rfl⟩
   cases o
   all_goals
    repeat (first | refine za8 ?_ | refine za5 rfl ?_ | refine zai ?_ | refine zaa ?_ | refine zab ?_ | refine zb4 rfl ?_ | refine zb8 rfl ?_ | refine za1 rfl ?_ | refine za7 rfl rfl ?_ | refine zaw rfl rfl rfl ?_)
    refine ze4 env0_ok (fun d => Nat.beq d 76) (fun d => Nat.beq d 73) [] (fun x hx => absurd hx y0d) (fun _ => false) [] (fun x hx => absurd hx y0d) (fun _ => false) rfl rfl rfl ?_
    repeat (first | refine za1 rfl ?_ | refine za7 rfl rfl ?_ | refine zaw rfl rfl rfl ?_ | refine zb3 rfl rfl (by omega) (by omega) ?_)
    refine o_lo rfl (zfc (sp := 0) rfl rfl (by omega) rfl) ?_
    refine za1 rfl (za1 rfl ?_)
    refine zdh rfl rfl rfl rfl rfl ?_
    refine zc0 [[.int .i64 _], [.int .i64 _]] rfl rfl rfl (fun h => Nat.noConfusion h) rfl (by decide) rfl (y0c 1) (by show 1 + 2 ≤ _; omega) (by show 1 < 1 + 2; omega) ?_
    refine zb3 rfl rfl (by decide) (by decide) ?_
    refine zad (sp := 0) rfl rfl rfl rfl rfl rfl rfl ?_
    refine onR rfl (za1 rfl (zaw rfl rfl rfl (za7 rfl rfl (za1 rfl (zb3 rfl rfl (by omega) (by omega) (zad rfl rfl rfl rfl rfl rfl rfl (zai (zb7 (zaa (za5 rfl (zb6 (op := .add) rfl rfl rfl ?_)))))))))))
    refine za1 rfl (zai ?_)
    rw [zas j (by omega)]
    exact zav (show sk.length - (j + 1) < sk.length - j by omega) (sq (zaj q (6 + 2)) (lvF [e0, o'] ((some (5, 0), chM 6 [c0, [e] ++ zhp o'] [k0, none]) :: [(some (6, 0), c0.map (AV.int .i64)), (some (q + (6 + 2), 1), ([e] ++ zhp o').map (AV.int .i64))])) [] rfl rfl rfl rfl .nil (by subst ho; exact (zfg rfl rfl rfl rfl rfl (.cons rfl (.cons (.ms rfl) (.cons (.ms rfl) .nil)) (.cons rfl (.keep (zah _)) (.cons (by (repeat (first | rw [za0, if_neg (by omega)] | rw [za0, if_pos rfl] | rw [za2, if_neg (by omega)] | rw [za2, if_pos rfl])); try rfl) (.keep rfl) .nil)))))
     (l' := (b18 f n l i sk w 2 [(13, .ms 5 0 1 0 2 none), (58, .vs (cSs sk)), (59, .int .i64 (cSs sk).length), (60, .int .i64 ((j + 1 : Nat) : Int))])) (zh7 rfl rfl rfl rfl rfl rfl rfl rfl rfl rfl rfl rfl rfl rfl rfl rfl rfl (.cons rfl (.ms rfl) (.cons rfl (.same rfl) (.cons rfl (.same rfl) (.cons rfl (.same rfl) .nil)))))) (by subst ho; exact ⟨j + 1, _, [k0, none], _, rfl, hlt, ft ([e] ++ zhp _) _, hch, haf, rfl⟩)
 ·have hj2 : j = sk.length := by
   have : ¬ ((j : Nat) : Int) < ((cSs sk).length : Nat) := of_decide_eq_false h3
   rw [hcs] at this
   omega
  subst hj2
  rw [y0s] at hch haf
  refine onu (za8 (zb8 rfl (zbm (zao ?_))))
  refine zcn (zbl (zaa ?_))
  have := fin [k0, k1] [e0, e1] rfl haf.symm
  rw [hch] at this
  exact zf0 (zan (.cons rfl (.cons rfl (.cons rfl (.cons rfl (.cons rfl (.cons rfl (.cons rfl (.cons rfl (.cons rfl (.cons rfl (.cons rfl (.cons rfl (.cons rfl .nil)))))))))))))) this
theorem len3 {α : Type} {x : List α} (h : x.length = 3) : ∃ a0 a1 a2, x = [a0, a1, a2] := by
 match x, h with
 | [a0, a1, a2], _ => exact ⟨a0, a1, a2, rfl⟩
set_option maxHeartbeats 8000000 in
theorem loopB3 (f : List Ex) (n : Int) (l : List Sp) (i : Nat) (sk : List Sk) (hsk : sk.length ≤ 6) (w : Int) (C0 : List (List Int)) (k0 : List (Option Nat)) (E0 : List Bool) (q : Nat) {y : IC} (ok : Fit18 3 C0 k0 E0 sk)
  (fin : ∀ ks E2, ks.length = 3 → E2 = aft E0 sk → Zm Try.prog w0 N0 none y (st 97 (b18 f n l i sk w 3 [(13, .ms 5 0 1 0 3 none)]) (zc5 0 (zk3 E2 (chS C0 sk) ks) ++ zc8 (6 + 3) q) (q + (6 + 3)) 1 (zdz (6 + 3) q)) k Q) :
  Zm Try.prog w0 N0 none (.loop zly) (st 97 (b18 f n l i sk w 3 [(13, .ms 5 0 1 0 3 none), (58, .vs (cSs sk)), (59, .int .i64 (cSs sk).length), (60, .int .i64 ((0 : Nat) : Int))]) (zc5 0 (zk3 E0 C0 k0) ++ zc8 (6 + 3) q) (q + (6 + 3)) 1 (zdz (6 + 3) q)) (.blk 4 :: .seq y :: k) Q := by
 have hcs : (cSs sk).length = sk.length := zc3 sk
 refine zbu (fun mm S => ∃ j C ks E, mm = sk.length - j ∧ j ≤ sk.length ∧ Fit18 3 C ks E (sk.drop j) ∧ chS C0 sk = chS C (sk.drop j) ∧ aft E0 sk = aft E (sk.drop j) ∧ S = st 97 (b18 f n l i sk w 3 [(13, .ms 5 0 1 0 3 none), (58, .vs (cSs sk)), (59, .int .i64 (cSs sk).length), (60, .int .i64 ((j : Nat) : Int))]) (zc5 0 (zk3 E C ks) ++ zc8 (6 + 3) q) (q + (6 + 3)) 1 (zdz (6 + 3) q)) sk.length
  (zan (.cons rfl (.cons rfl (.cons rfl (.cons rfl (.cons rfl (.cons rfl (.cons rfl (.cons rfl (.cons rfl (.cons rfl (.cons rfl (.cons rfl (.cons rfl (.cons rfl (.cons rfl (.cons rfl .nil))))))))))))))))) ⟨0, C0, k0, E0, rfl, y0t _, ok, rfl, rfl, rfl⟩ ?_
 rintro mm S ⟨j, C, ks, E, rfl, hj, fit, hch, haf, rfl⟩
 obtain ⟨c0, c1, c2, rfl⟩ := len3 fit.hC
 obtain ⟨k0, k1, k2, rfl⟩ := len3 fit.hk
 obtain ⟨e0, e1, e2, rfl⟩ := len3 fit.hE
 unfold zly
 refine zsr rfl ?_
 refine zaq rfl rfl rfl (fun h3 => ?_) fun h3 => ?_
 ·have hlt : j < sk.length := by
   have : ((j : Nat) : Int) < ((cSs sk).length : Nat) := of_decide_eq_true h3
   rw [hcs] at this
   omega
  rw [y0g hlt] at fit hch haf
  have hg := zdo hlt
  generalize sk[j] = s at fit hch haf hg
  obtain ⟨a0, a1, ⟨e, hce⟩, hks⟩ := fit.at' s (y05 ..)
  have ft := fun c o => fit.tail c o
  clear fit
  obtain ⟨a, o⟩ := s
  have a0 : 0 ≤ a := a0
  have a1 : a < 3 := a1
  have hg : (cSs sk)[((j : Nat) : Int).toNat]? = some [.int .i64 a, .bool o] := hg
  rcases (show a = 0 ∨ a = 1 ∨ a = 2 by omega) with rfl | rfl | rfl
  ·have hce : c0 = [e] := hce
   have hks : k0 = some 1 := hks
   subst hce hks
   refine onu (za8 (zb4 rfl (zab (zaa (za8 (zac (zsr rfl (zbh rfl rfl (by omega) (by assumption) rfl (zam rfl rfl rfl rfl (zau ?_))))))))))
   refine zad rfl rfl rfl rfl zar rfl rfl ?_
   rw [zbr]
   refine onu ?_
   refine zq (zaj q (6 + 3)) (lvF [e0, e1, e2] [(some (5, 0), chM 6 [[e], c1, c2] [some 1, k1, k2]), (some (6, 0), [.int .i64 e]), (some (7, 0), c1.map (AV.int .i64)), (some (8, 0), c2.map (AV.int .i64))]) [(q + (6 + 3), 1, [.int .i64 0, .bool o])] (b18 f n l i sk w 3 [(13, .ms 5 0 1 0 3 none), (58, .vs (cSs sk)), (59, .int .i64 (cSs sk).length), (60, .int .i64 ((j : Nat) : Int)), (17, .vptr [.int .i64 0, .bool o])]) rfl (.cons (by (repeat (first | rw [za0, if_neg (by omega)] | rw [za0, if_pos rfl] | rw [za2, if_neg (by omega)] | rw [za2, if_pos rfl])); try rfl) rfl .nil) (zfg rfl rfl rfl rfl rfl (.cons rfl (.cons (.ms rfl) (.cons (.ms rfl) (.cons (.ms rfl) .nil))) (.cons rfl (.keep rfl) (.cons rfl (.keep (zah _)) (.cons rfl (.keep (zah _)) .nil))))) (zh7 rfl rfl rfl rfl rfl rfl rfl rfl rfl rfl rfl rfl rfl rfl rfl rfl rfl (.cons rfl (.ms rfl) (.cons rfl (.same rfl) (.cons rfl (.same rfl) (.cons rfl (.same rfl) (.cons rfl (.fptr (by simp [fzl]) rfl) .nil)))))) ?_
   show Zm _ _ _ _ _ (st _ _ _ (q + (6 + 3)) 1 _) _ _
   obtain ⟨o', ho⟩ : ∃ o', o' = o := ⟨_, rfl⟩
   cases o
   all_goals
    repeat (first | refine za8 ?_ | refine za5 rfl ?_ | refine zai ?_ | refine zaa ?_ | refine zab ?_ | refine zb4 rfl ?_ | refine zb8 rfl ?_ | refine za1 rfl ?_ | refine za7 rfl rfl ?_ | refine zaw rfl rfl rfl ?_)
    refine ze4 env0_ok (fun d => Nat.beq d 76) (fun d => Nat.beq d 73) [] (fun x hx => absurd hx y0d) (fun _ => false) [] (fun x hx => absurd hx y0d) (fun _ => false) rfl rfl rfl ?_
    repeat (first | refine za1 rfl ?_ | refine za7 rfl rfl ?_ | refine zaw rfl rfl rfl ?_ | refine zb3 rfl rfl (by omega) (by omega) ?_)
    refine o_lo rfl (zfc (sp := 0) rfl rfl (by omega) rfl) ?_
    refine za1 rfl (za1 rfl ?_)
    refine zdh rfl rfl rfl rfl rfl ?_
    refine zc0 [[.int .i64 _], [.int .i64 _]] rfl rfl rfl (fun h => Nat.noConfusion h) rfl (by decide) rfl (y0c 1) (by show 1 + 2 ≤ _; omega) (by show 1 < 1 + 2; omega) ?_
    refine zb3 rfl rfl (by decide) (by decide) ?_
    refine zad (sp := 0) rfl rfl rfl rfl rfl rfl rfl ?_
    refine onR rfl (za1 rfl (zaw rfl rfl rfl (za7 rfl rfl (za1 rfl (zb3 rfl rfl (by omega) (by omega) (zad rfl rfl rfl rfl rfl rfl rfl (zai (zb7 (zaa (za5 rfl (zb6 (op := .add) rfl rfl rfl ?_)))))))))))
    refine za1 rfl (zai ?_)
    rw [zas j (by omega)]
    exact zav (show sk.length - (j + 1) < sk.length - j by omega) (sq (zaj q (6 + 3)) (lvF [o', e1, e2] ((some (5, 0), chM 6 [[e] ++ zhp o', c1, c2] [none, k1, k2]) :: [(some (q + (6 + 3), 1), ([e] ++ zhp o').map (AV.int .i64)), (some (7, 0), c1.map (AV.int .i64)), (some (8, 0), c2.map (AV.int .i64))])) [] rfl rfl rfl rfl .nil (by subst ho; exact (zfg rfl rfl rfl rfl rfl (.cons rfl (.cons (.ms rfl) (.cons (.ms rfl) (.cons (.ms rfl) .nil))) (.cons (by (repeat (first | rw [za0, if_neg (by omega)] | rw [za0, if_pos rfl] | rw [za2, if_neg (by omega)] | rw [za2, if_pos rfl])); try rfl) (.keep rfl) (.cons rfl (.keep (zah _)) (.cons rfl (.keep (zah _)) .nil))))))
     (l' := (b18 f n l i sk w 3 [(13, .ms 5 0 1 0 3 none), (58, .vs (cSs sk)), (59, .int .i64 (cSs sk).length), (60, .int .i64 ((j + 1 : Nat) : Int))])) (zh7 rfl rfl rfl rfl rfl rfl rfl rfl rfl rfl rfl rfl rfl rfl rfl rfl rfl (.cons rfl (.ms rfl) (.cons rfl (.same rfl) (.cons rfl (.same rfl) (.cons rfl (.same rfl) .nil)))))) (by subst ho; exact ⟨j + 1, _, [none, k1, k2], _, rfl, hlt, ft ([e] ++ zhp _) _, hch, haf, rfl⟩)
  ·have hce : c1 = [e] := hce
   have hks : k1 = some 1 := hks
   subst hce hks
   refine onu (za8 (zb4 rfl (zab (zaa (za8 (zac (zsr rfl (zbh rfl rfl (by omega) (by assumption) rfl (zam rfl rfl rfl rfl (zau ?_))))))))))
   refine zad rfl rfl rfl rfl zar rfl rfl ?_
   rw [zbr]
   refine onu ?_
   refine zq (zaj q (6 + 3)) (lvF [e0, e1, e2] [(some (5, 0), chM 6 [c0, [e], c2] [k0, some 1, k2]), (some (6, 0), c0.map (AV.int .i64)), (some (7, 0), [.int .i64 e]), (some (8, 0), c2.map (AV.int .i64))]) [(q + (6 + 3), 1, [.int .i64 1, .bool o])] (b18 f n l i sk w 3 [(13, .ms 5 0 1 0 3 none), (58, .vs (cSs sk)), (59, .int .i64 (cSs sk).length), (60, .int .i64 ((j : Nat) : Int)), (17, .vptr [.int .i64 1, .bool o])]) rfl (.cons (by (repeat (first | rw [za0, if_neg (by omega)] | rw [za0, if_pos rfl] | rw [za2, if_neg (by omega)] | rw [za2, if_pos rfl])); try rfl) rfl .nil) (zfg rfl rfl rfl rfl rfl (.cons rfl (.cons (.ms rfl) (.cons (.ms rfl) (.cons (.ms rfl) .nil))) (.cons rfl (.keep (zah _)) (.cons rfl (.keep rfl) (.cons rfl (.keep (zah _)) .nil))))) (zh7 rfl rfl rfl rfl rfl rfl rfl rfl rfl rfl rfl rfl rfl rfl rfl rfl rfl (.cons rfl (.ms rfl) (.cons rfl (.same rfl) (.cons rfl (.same rfl) (.cons rfl (.same rfl) (.cons rfl (.fptr (by simp [fzl]) rfl) .nil)))))) ?_
   show Zm _ _ _ _ _ (st _ _ _ (q + (6 + 3)) 1 _) _ _
   obtain ⟨o', ho⟩ : ∃ o', o' = o := ⟨_, rfl⟩
   cases o
   all_goals
    repeat (first | refine za8 ?_ | refine za5 rfl ?_ | refine zai ?_ | refine zaa ?_ | refine zab ?_ | refine zb4 rfl ?_ | refine zb8 rfl ?_ | refine za1 rfl ?_ | refine za7 rfl rfl ?_ | refine zaw rfl rfl rfl ?_)
    refine ze4 env0_ok (fun d => Nat.beq d 76) (fun d => Nat.beq d 73) [] (fun x hx => absurd hx y0d) (fun _ => false) [] (fun x hx => absurd hx y0d) (fun _ => false) rfl rfl rfl ?_
    repeat (first | refine za1 rfl ?_ | refine za7 rfl rfl ?_ | refine zaw rfl rfl rfl ?_ | refine zb3 rfl rfl (by omega) (by omega) ?_)
    refine o_lo rfl (zfc (sp := 0) rfl rfl (by omega) rfl) ?_
    refine za1 rfl (za1 rfl ?_)
    refine zdh rfl rfl rfl rfl rfl ?_
    refine zc0 [[.int .i64 _], [.int .i64 _]] rfl rfl rfl (fun h => Nat.noConfusion h) rfl (by decide) rfl (y0c 1) (by show 1 + 2 ≤ _; omega) (by show 1 < 1 + 2; omega) ?_
    refine zb3 rfl rfl (by decide) (by decide) ?_
    refine zad (sp := 0) rfl rfl rfl rfl rfl rfl rfl ?_
    refine onR rfl (za1 rfl (zaw rfl rfl rfl (za7 rfl rfl (za1 rfl (zb3 rfl rfl (by omega) (by omega) (zad rfl rfl rfl rfl rfl rfl rfl (zai (zb7 (zaa (za5 rfl (zb6 (op := .add) rfl rfl rfl ?_)))))))))))
    refine za1 rfl (zai ?_)
    rw [zas j (by omega)]
    exact zav (show sk.length - (j + 1) < sk.length - j by omega) (sq (zaj q (6 + 3)) (lvF [e0, o', e2] ((some (5, 0), chM 6 [c0, [e] ++ zhp o', c2] [k0, none, k2]) :: [(some (6, 0), c0.map (AV.int .i64)), (some (q + (6 + 3), 1), ([e] ++ zhp o').map (AV.int .i64)), (some (8, 0), c2.map (AV.int .i64))])) [] rfl rfl rfl rfl .nil (by subst ho; exact (zfg rfl rfl rfl rfl rfl (.cons rfl (.cons (.ms rfl) (.cons (.ms rfl) (.cons (.ms rfl) .nil))) (.cons rfl (.keep (zah _)) (.cons (by (repeat (first | rw [za0, if_neg (by omega)] | rw [za0, if_pos rfl] | rw [za2, if_neg (by omega)] | rw [za2, if_pos rfl])); try rfl) (.keep rfl) (.cons rfl (.keep (zah _)) .nil))))))
     (l' := (b18 f n l i sk w 3 [(13, .ms 5 0 1 0 3 none), (58, .vs (cSs sk)), (59, .int .i64 (cSs sk).length), (60, .int .i64 ((j + 1 : Nat) : Int))])) (zh7 rfl rfl rfl rfl rfl rfl rfl rfl rfl rfl rfl rfl rfl rfl rfl rfl rfl (.cons rfl (.ms rfl) (.cons rfl (.same rfl) (.cons rfl (.same rfl) (.cons rfl (.same rfl) .nil)))))) (by subst ho; exact ⟨j + 1, _, [k0, none, k2], _, rfl, hlt, ft ([e] ++ zhp _) _, hch, haf, rfl⟩)
  ·have hce : c2 = [e] := hce
   have hks : k2 = some 1 := hks
   subst hce hks
   refine onu (za8 (zb4 rfl (zab (zaa (za8 (zac (zsr rfl (zbh rfl rfl (by omega) (by assumption) rfl (zam rfl rfl rfl rfl (zau ?_))))))))))
   refine zad rfl rfl rfl rfl zar rfl rfl ?_
   rw [zbr]
   refine onu ?_
   refine zq (zaj q (6 + 3)) (lvF [e0, e1, e2] [(some (5, 0), chM 6 [c0, c1, [e]] [k0, k1, some 1]), (some (6, 0), c0.map (AV.int .i64)), (some (7, 0), c1.map (AV.int .i64)), (some (8, 0), [.int .i64 e])]) [(q + (6 + 3), 1, [.int .i64 2, .bool o])] (b18 f n l i sk w 3 [(13, .ms 5 0 1 0 3 none), (58, .vs (cSs sk)), (59, .int .i64 (cSs sk).length), (60, .int .i64 ((j : Nat) : Int)), (17, .vptr [.int .i64 2, .bool o])]) rfl (.cons (by (repeat (first | rw [za0, if_neg (by omega)] | rw [za0, if_pos rfl] | rw [za2, if_neg (by omega)] | rw [za2, if_pos rfl])); try rfl) rfl .nil) (zfg rfl rfl rfl rfl rfl (.cons rfl (.cons (.ms rfl) (.cons (.ms rfl) (.cons (.ms rfl) .nil))) (.cons rfl (.keep (zah _)) (.cons rfl (.keep (zah _)) (.cons rfl (.keep rfl) .nil))))) (zh7 rfl rfl rfl rfl rfl rfl rfl rfl rfl rfl rfl rfl rfl rfl rfl rfl rfl (.cons rfl (.ms rfl) (.cons rfl (.same rfl) (.cons rfl (.same rfl) (.cons rfl (.same rfl) (.cons rfl (.fptr (by simp [fzl]) rfl) .nil)))))) ?_
   show Zm _ _ _ _ _ (st _ _ _ (q + (6 + 3)) 1 _) _ _
   obtain ⟨o', ho⟩ : ∃ o', o' = o := ⟨_, rfl⟩
   cases o
   all_goals
    repeat (first | refine za8 ?_ | refine za5 rfl ?_ | refine zai ?_ | refine zaa ?_ | refine zab ?_ | refine zb4 rfl ?_ | refine zb8 rfl ?_ | refine za1 rfl ?_ | refine za7 rfl rfl ?_ | refine zaw rfl rfl rfl ?_)
    refine ze4 env0_ok (fun d => Nat.beq d 76) (fun d => Nat.beq d 73) [] (fun x hx => absurd hx y0d) (fun _ => false) [] (fun x hx => absurd hx y0d) (fun _ => false) rfl rfl rfl ?_
    repeat (first | refine za1 rfl ?_ | refine za7 rfl rfl ?_ | refine zaw rfl rfl rfl ?_ | refine zb3 rfl rfl (by omega) (by omega) ?_)
    refine o_lo rfl (zfc (sp := 0) rfl rfl (by omega) rfl) ?_
    refine za1 rfl (za1 rfl ?_)
    refine zdh rfl rfl rfl rfl rfl ?_
    refine zc0 [[.int .i64 _], [.int .i64 _]] rfl rfl rfl (fun h => Nat.noConfusion h) rfl (by decide) rfl (y0c 1) (by show 1 + 2 ≤ _; omega) (by show 1 < 1 + 2; omega) ?_
    refine zb3 rfl rfl (by decide) (by decide) ?_
    refine zad (sp := 0) rfl rfl rfl rfl rfl rfl rfl ?_
    refine onR rfl (za1 rfl (zaw rfl rfl rfl (za7 rfl rfl (za1 rfl (zb3 rfl rfl (by omega) (by omega) (zad rfl rfl rfl rfl rfl rfl rfl (zai (zb7 (zaa (za5 rfl (zb6 (op := .add) rfl rfl rfl ?_)))))))))))
    refine za1 rfl (zai ?_)
    rw [zas j (by omega)]
    exact zav (show sk.length - (j + 1) < sk.length - j by omega) (sq (zaj q (6 + 3)) (lvF [e0, e1, o'] ((some (5, 0), chM 6 [c0, c1, [e] ++ zhp o'] [k0, k1, none]) :: [(some (6, 0), c0.map (AV.int .i64)), (some (7, 0), c1.map (AV.int .i64)), (some (q + (6 + 3), 1), ([e] ++ zhp o').map (AV.int .i64))])) [] rfl rfl rfl rfl .nil (by subst ho; exact (zfg rfl rfl rfl rfl rfl (.cons rfl (.cons (.ms rfl) (.cons (.ms rfl) (.cons (.ms rfl) .nil))) (.cons rfl (.keep (zah _)) (.cons rfl (.keep (zah _)) (.cons (by (repeat (first | rw [za0, if_neg (by omega)] | rw [za0, if_pos rfl] | rw [za2, if_neg (by omega)] | rw [za2, if_pos rfl])); try rfl) (.keep rfl) .nil))))))
     (l' := (b18 f n l i sk w 3 [(13, .ms 5 0 1 0 3 none), (58, .vs (cSs sk)), (59, .int .i64 (cSs sk).length), (60, .int .i64 ((j + 1 : Nat) : Int))])) (zh7 rfl rfl rfl rfl rfl rfl rfl rfl rfl rfl rfl rfl rfl rfl rfl rfl rfl (.cons rfl (.ms rfl) (.cons rfl (.same rfl) (.cons rfl (.same rfl) (.cons rfl (.same rfl) .nil)))))) (by subst ho; exact ⟨j + 1, _, [k0, k1, none], _, rfl, hlt, ft ([e] ++ zhp _) _, hch, haf, rfl⟩)
 ·have hj2 : j = sk.length := by
   have : ¬ ((j : Nat) : Int) < ((cSs sk).length : Nat) := of_decide_eq_false h3
   rw [hcs] at this
   omega
  subst hj2
  rw [y0s] at hch haf
  refine onu (za8 (zb8 rfl (zbm (zao ?_))))
  refine zcn (zbl (zaa ?_))
  have := fin [k0, k1, k2] [e0, e1, e2] rfl haf.symm
  rw [hch] at this
  exact zf0 (zan (.cons rfl (.cons rfl (.cons rfl (.cons rfl (.cons rfl (.cons rfl (.cons rfl (.cons rfl (.cons rfl (.cons rfl (.cons rfl (.cons rfl (.cons rfl .nil)))))))))))))) this
theorem len4 {α : Type} {x : List α} (h : x.length = 4) : ∃ a0 a1 a2 a3, x = [a0, a1, a2, a3] := by
 match x, h with
 | [a0, a1, a2, a3], _ => exact ⟨a0, a1, a2, a3, rfl⟩
set_option maxHeartbeats 8000000 in
theorem loopB4 (f : List Ex) (n : Int) (l : List Sp) (i : Nat) (sk : List Sk) (hsk : sk.length ≤ 6) (w : Int) (C0 : List (List Int)) (k0 : List (Option Nat)) (E0 : List Bool) (q : Nat) {y : IC} (ok : Fit18 4 C0 k0 E0 sk)
  (fin : ∀ ks E2, ks.length = 4 → E2 = aft E0 sk → Zm Try.prog w0 N0 none y (st 97 (b18 f n l i sk w 4 [(13, .ms 5 0 1 0 4 none)]) (zc5 0 (zk3 E2 (chS C0 sk) ks) ++ zc8 (6 + 4) q) (q + (6 + 4)) 1 (zdz (6 + 4) q)) k Q) :
  Zm Try.prog w0 N0 none (.loop zly) (st 97 (b18 f n l i sk w 4 [(13, .ms 5 0 1 0 4 none), (58, .vs (cSs sk)), (59, .int .i64 (cSs sk).length), (60, .int .i64 ((0 : Nat) : Int))]) (zc5 0 (zk3 E0 C0 k0) ++ zc8 (6 + 4) q) (q + (6 + 4)) 1 (zdz (6 + 4) q)) (.blk 4 :: .seq y :: k) Q := by
 have hcs : (cSs sk).length = sk.length := zc3 sk
 refine zbu (fun mm S => ∃ j C ks E, mm = sk.length - j ∧ j ≤ sk.length ∧ Fit18 4 C ks E (sk.drop j) ∧ chS C0 sk = chS C (sk.drop j) ∧ aft E0 sk = aft E (sk.drop j) ∧ S = st 97 (b18 f n l i sk w 4 [(13, .ms 5 0 1 0 4 none), (58, .vs (cSs sk)), (59, .int .i64 (cSs sk).length), (60, .int .i64 ((j : Nat) : Int))]) (zc5 0 (zk3 E C ks) ++ zc8 (6 + 4) q) (q + (6 + 4)) 1 (zdz (6 + 4) q)) sk.length
  (zan (.cons rfl (.cons rfl (.cons rfl (.cons rfl (.cons rfl (.cons rfl (.cons rfl (.cons rfl (.cons rfl (.cons rfl (.cons rfl (.cons rfl (.cons rfl (.cons rfl (.cons rfl (.cons rfl .nil))))))))))))))))) ⟨0, C0, k0, E0, rfl, y0t _, ok, rfl, rfl, rfl⟩ ?_
 rintro mm S ⟨j, C, ks, E, rfl, hj, fit, hch, haf, rfl⟩
 obtain ⟨c0, c1, c2, c3, rfl⟩ := len4 fit.hC
 obtain ⟨k0, k1, k2, k3, rfl⟩ := len4 fit.hk
 obtain ⟨e0, e1, e2, e3, rfl⟩ := len4 fit.hE
 unfold zly
 refine zsr rfl ?_
 refine zaq rfl rfl rfl (fun h3 => ?_) fun h3 => ?_
 ·have hlt : j < sk.length := by
   have : ((j : Nat) : Int) < ((cSs sk).length : Nat) := of_decide_eq_true h3
   rw [hcs] at this
   omega
  rw [y0g hlt] at fit hch haf
  have hg := zdo hlt
  generalize sk[j] = s at fit hch haf hg
  obtain ⟨a0, a1, ⟨e, hce⟩, hks⟩ := fit.at' s (y05 ..)
  have ft := fun c o => fit.tail c o
  clear fit
  obtain ⟨a, o⟩ := s
  have a0 : 0 ≤ a := a0
  have a1 : a < 4 := a1
  have hg : (cSs sk)[((j : Nat) : Int).toNat]? = some [.int .i64 a, .bool o] := hg
  rcases (show a = 0 ∨ a = 1 ∨ a = 2 ∨ a = 3 by omega) with rfl | rfl | rfl | rfl
  ·have hce : c0 = [e] := hce
   have hks : k0 = some 1 := hks
   subst hce hks
   refine onu (za8 (zb4 rfl (zab (zaa (za8 (zac (zsr rfl (zbh rfl rfl (by omega) (by assumption) rfl (zam rfl rfl rfl rfl (zau ?_))))))))))
   refine zad rfl rfl rfl rfl zar rfl rfl ?_
   rw [zbr]
   refine onu ?_
   refine zq (zaj q (6 + 4)) (lvF [e0, e1, e2, e3] [(some (5, 0), chM 6 [[e], c1, c2, c3] [some 1, k1, k2, k3]), (some (6, 0), [.int .i64 e]), (some (7, 0), c1.map (AV.int .i64)), (some (8, 0), c2.map (AV.int .i64)), (some (9, 0), c3.map (AV.int .i64))]) [(q + (6 + 4), 1, [.int .i64 0, .bool o])] (b18 f n l i sk w 4 [(13, .ms 5 0 1 0 4 none), (58, .vs (cSs sk)), (59, .int .i64 (cSs sk).length), (60, .int .i64 ((j : Nat) : Int)), (17, .vptr [.int .i64 0, .bool o])]) rfl (.cons (by (repeat (first | rw [za0, if_neg (by omega)] | rw [za0, if_pos rfl] | rw [za2, if_neg (by omega)] | rw [za2, if_pos rfl])); try rfl) rfl .nil) (zfg rfl rfl rfl rfl rfl (.cons rfl (.cons (.ms rfl) (.cons (.ms rfl) (.cons (.ms rfl) (.cons (.ms rfl) .nil)))) (.cons rfl (.keep rfl) (.cons rfl (.keep (zah _)) (.cons rfl (.keep (zah _)) (.cons rfl (.keep (zah _)) .nil)))))) (zh7 rfl rfl rfl rfl rfl rfl rfl rfl rfl rfl rfl rfl rfl rfl rfl rfl rfl (.cons rfl (.ms rfl) (.cons rfl (.same rfl) (.cons rfl (.same rfl) (.cons rfl (.same rfl) (.cons rfl (.fptr (by simp [fzl]) rfl) .nil)))))) ?_
   show Zm _ _ _ _ _ (st _ _ _ (q + (6 + 4)) 1 _) _ _
   obtain ⟨o', ho⟩ : ∃ o', o' = o := ⟨_, rfl⟩
   cases o
   all_goals
    repeat (first | refine za8 ?_ | refine za5 rfl ?_ | refine zai ?_ | refine zaa ?_ | refine zab ?_ | refine zb4 rfl ?_ | refine zb8 rfl ?_ | refine za1 rfl ?_ | refine za7 rfl rfl ?_ | refine zaw rfl rfl rfl ?_)
    refine ze4 env0_ok (fun d => Nat.beq d 76) (fun d => Nat.beq d 73) [] (fun x hx => absurd hx y0d) (fun _ => false) [] (fun x hx => absurd hx y0d) (fun _ => false) rfl rfl rfl ?_
    repeat (first | refine za1 rfl ?_ | refine za7 rfl rfl ?_ | refine zaw rfl rfl rfl ?_ | refine zb3 rfl rfl (by omega) (by omega) ?_)
    refine o_lo rfl (zfc (sp := 0) rfl rfl (by omega) rfl) ?_
    refine za1 rfl (za1 rfl ?_)
    refine zdh rfl rfl rfl rfl rfl ?_
    refine zc0 [[.int .i64 _], [.int .i64 _]] rfl rfl rfl (fun h => Nat.noConfusion h) rfl (by decide) rfl (y0c 1) (by show 1 + 2 ≤ _; omega) (by show 1 < 1 + 2; omega) ?_
    refine zb3 rfl rfl (by decide) (by decide) ?_
    refine zad (sp := 0) rfl rfl rfl rfl rfl rfl rfl ?_
    refine onR rfl (za1 rfl (zaw rfl rfl rfl (za7 rfl rfl (za1 rfl (zb3 rfl rfl (by omega) (by omega) (zad rfl rfl rfl rfl rfl rfl rfl (zai (zb7 (zaa (za5 rfl (zb6 (op := .add) rfl rfl rfl ?_)))))))))))
    refine za1 rfl (zai ?_)
    rw [zas j (by omega)]
    exact zav (show sk.length - (j + 1) < sk.length - j by omega) (sq (zaj q (6 + 4)) (lvF [o', e1, e2, e3] ((some (5, 0), chM 6 [[e] ++ zhp o', c1, c2, c3] [none, k1, k2, k3]) :: [(some (q + (6 + 4), 1), ([e] ++ zhp o').map (AV.int .i64)), (some (7, 0), c1.map (AV.int .i64)), (some (8, 0), c2.map (AV.int .i64)), (some (9, 0), c3.map (AV.int .i64))])) [] rfl rfl rfl rfl .nil (by subst ho; exact (zfg rfl rfl rfl rfl rfl (.cons rfl (.cons (.ms rfl) (.cons (.ms rfl) (.cons (.ms rfl) (.cons (.ms rfl) .nil)))) (.cons (by (repeat (first | rw [za0, if_neg (by omega)] | rw [za0, if_pos rfl] | rw [za2, if_neg (by omega)] | rw [za2, if_pos rfl])); try rfl) (.keep rfl) (.cons rfl (.keep (zah _)) (.cons rfl (.keep (zah _)) (.cons rfl (.keep (zah _)) .nil)))))))
     (l' := (b18 f n l i sk w 4 [(13, .ms 5 0 1 0 4 none), (58, .vs (cSs sk)), (59, .int .i64 (cSs sk).length), (60, .int .i64 ((j + 1 : Nat) : Int))])) (zh7 rfl rfl rfl rfl rfl rfl rfl rfl rfl rfl rfl rfl rfl rfl rfl rfl rfl (.cons rfl (.ms rfl) (.cons rfl (.same rfl) (.cons rfl (.same rfl) (.cons rfl (.same rfl) .nil)))))) (by subst ho; exact ⟨j + 1, _, [none, k1, k2, k3], _, rfl, hlt, ft ([e] ++ zhp _) _, hch, haf, rfl⟩)
  ·have hce : c1 = [e] := hce
   have hks : k1 = some 1 := hks
   subst hce hks
   refine onu (za8 (zb4 rfl (zab (zaa (za8 (zac (zsr rfl (zbh rfl rfl (by omega) (by assumption) rfl (zam rfl rfl rfl rfl (zau ?_))))))))))
   refine zad rfl rfl rfl rfl zar rfl rfl ?_
   rw [zbr]
   refine onu ?_
   refine zq (zaj q (6 + 4)) (lvF [e0, e1, e2, e3] [(some (5, 0), chM 6 [c0, [e], c2, c3] [k0, some 1, k2, k3]), (some (6, 0), c0.map (AV.int .i64)), (some (7, 0), [.int .i64 e]), (some (8, 0), c2.map (AV.int .i64)), (some (9, 0), c3.map (AV.int .i64))]) [(q + (6 + 4), 1, [.int .i64 1, .bool o])] (b18 f n l i sk w 4 [(13, .ms 5 0 1 0 4 none), (58, .vs (cSs sk)), (59, .int .i64 (cSs sk).length), (60, .int .i64 ((j : Nat) : Int)), (17, .vptr [.int .i64 1, .bool o])]) rfl (.cons (by (repeat (first | rw [za0, if_neg (by omega)] | rw [za0, if_pos rfl] | rw [za2, if_neg (by omega)] | rw [za2, if_pos rfl])); try rfl) rfl .nil) (zfg rfl rfl rfl rfl rfl (.cons rfl (.cons (.ms rfl) (.cons (.ms rfl) (.cons (.ms rfl) (.cons (.ms rfl) .nil)))) (.cons rfl (.keep (zah _)) (.cons rfl (.keep rfl) (.cons rfl (.keep (zah _)) (.cons rfl (.keep (zah _)) .nil)))))) (zh7 rfl rfl rfl rfl rfl rfl rfl rfl rfl rfl rfl rfl rfl rfl rfl rfl rfl (.cons rfl (.ms rfl) (.cons rfl (.same rfl) (.cons rfl (.same rfl) (.cons rfl (.same rfl) (.cons rfl (.fptr (by simp [fzl]) rfl) .nil)))))) ?_
   show Zm _ _ _ _ _ (st _ _ _ (q + (6 + 4)) 1 _) _ _
   obtain ⟨o', ho⟩ : ∃ o', o' = o := ⟨_, rfl⟩
   cases o
   all_goals
    repeat (first | refine za8 ?_ | refine za5 rfl ?_ | refine zai ?_ | refine zaa ?_ | refine zab ?_ | refine zb4 rfl ?_ | refine zb8 rfl ?_ | refine za1 rfl ?_ | refine za7 rfl rfl ?_ | refine zaw rfl rfl rfl ?_)
    refine ze4 env0_ok (fun d => Nat.beq d 76) (fun d => Nat.beq d 73) [] (fun x hx => absurd hx y0d) (fun _ => false) [] (fun x hx => absurd hx y0d) (fun _ => false) rfl rfl rfl ?_
    repeat (first | refine za1 rfl ?_ | refine za7 rfl rfl ?_ | refine zaw rfl rfl rfl ?_ | refine zb3 rfl rfl (by omega) (by omega) ?_)
    refine o_lo rfl (zfc (sp := 0) rfl rfl (by omega) rfl) ?_
    refine za1 rfl (za1 rfl ?_)
    refine zdh rfl rfl rfl rfl rfl ?_
    refine zc0 [[.int .i64 _], [.int .i64 _]] rfl rfl rfl (fun h => Nat.noConfusion h) rfl (by decide) rfl (y0c 1) (by show 1 + 2 ≤ _; omega) (by show 1 < 1 + 2; omega) ?_
    refine zb3 rfl rfl (by decide) (by decide) ?_
    refine zad (sp := 0) rfl rfl rfl rfl rfl rfl rfl ?_
    refine onR rfl (za1 rfl (zaw rfl rfl rfl (za7 rfl rfl (za1 rfl (zb3 rfl rfl (by omega) (by omega) (zad rfl rfl rfl rfl rfl rfl rfl (zai (zb7 (zaa (za5 rfl (zb6 (op := .add) rfl rfl rfl ?_)))))))))))
    refine za1 rfl (zai ?_)
    rw [zas j (by omega)]
    exact zav (show sk.length - (j + 1) < sk.length - j by omega) (sq (zaj q (6 + 4)) (lvF [e0, o', e2, e3] ((some (5, 0), chM 6 [c0, [e] ++ zhp o', c2, c3] [k0, none, k2, k3]) :: [(some (6, 0), c0.map (AV.int .i64)), (some (q + (6 + 4), 1), ([e] ++ zhp o').map (AV.int .i64)), (some (8, 0), c2.map (AV.int .i64)), (some (9, 0), c3.map (AV.int .i64))])) [] rfl rfl rfl rfl .nil (by subst ho; exact (zfg rfl rfl rfl rfl rfl (.cons rfl (.cons (.ms rfl) (.cons (.ms rfl) (.cons (.ms rfl) (.cons (.ms rfl) .nil)))) (.cons rfl (.keep (zah _)) (.cons (by (repeat (first | rw [za0, if_neg (by omega)] | rw [za0, if_pos rfl] | rw [za2, if_neg (by omega)] | rw [za2, if_pos rfl])); try rfl) (.keep rfl) (.cons rfl (.keep (zah _)) (.cons rfl (.keep (zah _)) .nil)))))))
     (l' := (b18 f n l i sk w 4 [(13, .ms 5 0 1 0 4 none), (58, .vs (cSs sk)), (59, .int .i64 (cSs sk).length), (60, .int .i64 ((j + 1 : Nat) : Int))])) (zh7 rfl rfl rfl rfl rfl rfl rfl rfl rfl rfl rfl rfl rfl rfl rfl rfl rfl (.cons rfl (.ms rfl) (.cons rfl (.same rfl) (.cons rfl (.same rfl) (.cons rfl (.same rfl) .nil)))))) (by subst ho; exact ⟨j + 1, _, [k0, none, k2, k3], _, rfl, hlt, ft ([e] ++ zhp _) _, hch, haf, rfl⟩)
  ·have hce : c2 = [e] := hce
   have hks : k2 = some 1 := hks
   subst hce hks
   refine onu (za8 (zb4 rfl (zab (zaa (za8 (zac (zsr rfl (zbh rfl rfl (by omega) (by assumption) rfl (zam rfl rfl rfl rfl (zau ?_))))))))))
   refine zad rfl rfl rfl rfl zar rfl rfl ?_
   rw [zbr]
   refine onu ?_
   refine zq (zaj q (6 + 4)) (lvF [e0, e1, e2, e3] [(some (5, 0), chM 6 [c0, c1, [e], c3] [k0, k1, some 1, k3]), (some (6, 0), c0.map (AV.int .i64)), (some (7, 0), c1.map (AV.int .i64)), (some (8, 0), [.int .i64 e]), (some (9, 0), c3.map (AV.int .i64))]) [(q + (6 + 4), 1, [.int .i64 2, .bool o])] (b18 f n l i sk w 4 [(13, .ms 5 0 1 0 4 none), (58, .vs (cSs sk)), (59, .int .i64 (cSs sk).length), (60, .int .i64 ((j : Nat) : Int)), (17, .vptr [.int .i64 2, .bool o])]) rfl (.cons (by (repeat (first | rw [za0, if_neg (by omega)] | rw [za0, if_pos rfl] | rw [za2, if_neg (by omega)] | rw [za2, if_pos rfl])); try rfl) rfl .nil) (zfg rfl rfl rfl rfl rfl (.cons rfl (.cons (.ms rfl) (.cons (.ms rfl) (.cons (.ms rfl) (.cons (.ms rfl) .nil)))) (.cons rfl (.keep (zah _)) (.cons rfl (.keep (zah _)) (.cons rfl (.keep rfl) (.cons rfl (.keep (zah _)) .nil)))))) (zh7 rfl rfl rfl rfl rfl rfl rfl rfl rfl rfl rfl rfl rfl rfl rfl rfl rfl (.cons rfl (.ms rfl) (.cons rfl (.same rfl) (.cons rfl (.same rfl) (.cons rfl (.same rfl) (.cons rfl (.fptr (by simp [fzl]) rfl) .nil)))))) ?_
   show Zm _ _ _ _ _ (st _ _ _ (q + (6 + 4)) 1 _) _ _
   obtain ⟨o', ho⟩ : ∃ o', o' = o := ⟨_, rfl⟩
   cases o
   all_goals
    repeat (first | refine za8 ?_ | refine za5 rfl ?_ | refine zai ?_ | refine zaa ?_ | refine zab ?_ | refine zb4 rfl ?_ | refine zb8 rfl ?_ | refine za1 rfl ?_ | refine za7 rfl rfl ?_ | refine zaw rfl rfl rfl ?_)
    refine ze4 env0_ok (fun d => Nat.beq d 76) (fun d => Nat.beq d 73) [] (fun x hx => absurd hx y0d) (fun _ => false) [] (fun x hx => absurd hx y0d) (fun _ => false) rfl rfl rfl ?_
    repeat (first | refine za1 rfl ?_ | refine za7 rfl rfl ?_ | refine zaw rfl rfl rfl ?_ | refine zb3 rfl rfl (by omega) (by omega) ?_)
    refine o_lo rfl (zfc (sp := 0) rfl rfl (by omega) rfl) ?_
    refine za1 rfl (za1 rfl ?_)
    refine zdh rfl rfl rfl rfl rfl ?_
    refine zc0 [[.int .i64 _], [.int .i64 _]] rfl rfl rfl (fun h => Nat.noConfusion h) rfl (by decide) rfl (y0c 1) (by show 1 + 2 ≤ _; omega) (by show 1 < 1 + 2; omega) ?_
    refine zb3 rfl rfl (by decide) (by decide) ?_
    refine zad (sp := 0) rfl rfl rfl rfl rfl rfl rfl ?_
    refine onR rfl (za1 rfl (zaw rfl rfl rfl (za7 rfl rfl (za1 rfl (zb3 rfl rfl (by omega) (by omega) (zad rfl rfl rfl rfl rfl rfl rfl (zai (zb7 (zaa (za5 rfl (zb6 (op := .add) rfl rfl rfl ?_)))))))))))
    refine za1 rfl (zai ?_)
    rw [zas j (by omega)]
    exact zav (show sk.length - (j + 1) < sk.length - j by omega) (sq (zaj q (6 + 4)) (lvF [e0, e1, o', e3] ((some (5, 0), chM 6 [c0, c1, [e] ++ zhp o', c3] [k0, k1, none, k3]) :: [(some (6, 0), c0.map (AV.int .i64)), (some (7, 0), c1.map (AV.int .i64)), (some (q + (6 + 4), 1), ([e] ++ zhp o').map (AV.int .i64)), (some (9, 0), c3.map (AV.int .i64))])) [] rfl rfl rfl rfl .nil (by subst ho; exact (zfg rfl rfl rfl rfl rfl (.cons rfl (.cons (.ms rfl) (.cons (.ms rfl) (.cons (.ms rfl) (.cons (.ms rfl) .nil)))) (.cons rfl (.keep (zah _)) (.cons rfl (.keep (zah _)) (.cons (by (repeat (first | rw [za0, if_neg (by omega)] | rw [za0, if_pos rfl] | rw [za2, if_neg (by omega)] | rw [za2, if_pos rfl])); try rfl) (.keep rfl) (.cons rfl (.keep (zah _)) .nil)))))))
     (l' := (b18 f n l i sk w 4 [(13, .ms 5 0 1 0 4 none), (58, .vs (cSs sk)), (59, .int .i64 (cSs sk).length), (60, .int .i64 ((j + 1 : Nat) : Int))])) (zh7 rfl rfl rfl rfl rfl rfl rfl rfl rfl rfl rfl rfl rfl rfl rfl rfl rfl (.cons rfl (.ms rfl) (.cons rfl (.same rfl) (.cons rfl (.same rfl) (.cons rfl (.same rfl) .nil)))))) (by subst ho; exact ⟨j + 1, _, [k0, k1, none, k3], _, rfl, hlt, ft ([e] ++ zhp _) _, hch, haf, rfl⟩)
  ·have hce : c3 = [e] := hce
   have hks : k3 = some 1 := hks
   subst hce hks
   refine onu (za8 (zb4 rfl (zab (zaa (za8 (zac (zsr rfl (zbh rfl rfl (by omega) (by assumption) rfl (zam rfl rfl rfl rfl (zau ?_))))))))))
   refine zad rfl rfl rfl rfl zar rfl rfl ?_
   rw [zbr]
   refine onu ?_
   refine zq (zaj q (6 + 4)) (lvF [e0, e1, e2, e3] [(some (5, 0), chM 6 [c0, c1, c2, [e]] [k0, k1, k2, some 1]), (some (6, 0), c0.map (AV.int .i64)), (some (7, 0), c1.map (AV.int .i64)), (some (8, 0), c2.map (AV.int .i64)), (some (9, 0), [.int .i64 e])]) [(q + (6 + 4), 1, [.int .i64 3, .bool o])] (b18 f n l i sk w 4 [(13, .ms 5 0 1 0 4 none), (58, .vs (cSs sk)), (59, .int .i64 (cSs sk).length), (60, .int .i64 ((j : Nat) : Int)), (17, .vptr [.int .i64 3, .bool o])]) rfl (.cons (by (repeat (first | rw [za0, if_neg (by omega)] | rw [za0, if_pos rfl] | rw [za2, if_neg (by omega)] | rw [za2, if_pos rfl])); try rfl) rfl .nil) (zfg rfl rfl rfl rfl rfl (.cons rfl (.cons (.ms rfl) (.cons (.ms rfl) (.cons (.ms rfl) (.cons (.ms rfl) .nil)))) (.cons rfl (.keep (zah _)) (.cons rfl (.keep (zah _)) (.cons rfl (.keep (zah _)) (.cons rfl (.keep rfl) .nil)))))) (zh7 rfl rfl rfl rfl rfl rfl rfl rfl rfl rfl rfl rfl rfl rfl rfl rfl rfl (.cons rfl (.ms rfl) (.cons rfl (.same rfl) (.cons rfl (.same rfl) (.cons rfl (.same rfl) (.cons rfl (.fptr (by simp [fzl]) rfl) .nil)))))) ?_
   show Zm _ _ _ _ _ (st _ _ _ (q + (6 + 4)) 1 _) _ _
   obtain ⟨o', ho⟩ : ∃ o', o' = o := ⟨_, rfl⟩
   cases o
   all_goals
    repeat (first | refine za8 ?_ | refine za5 rfl ?_ | refine zai ?_ | refine zaa ?_ | refine zab ?_ | refine zb4 rfl ?_ | refine zb8 rfl ?_ | refine za1 rfl ?_ | refine za7 rfl rfl ?_ | refine zaw rfl rfl rfl ?_)
    refine ze4 env0_ok (fun d => Nat.beq d 76) (fun d => Nat.beq d 73) [] (fun x hx => absurd hx y0d) (fun _ => false) [] (fun x hx => absurd hx y0d) (fun _ => false) rfl rfl rfl ?_
    repeat (first | refine za1 rfl ?_ | refine za7 rfl rfl ?_ | refine zaw rfl rfl rfl ?_ | refine zb3 rfl rfl (by omega) (by omega) ?_)
    refine o_lo rfl (zfc (sp := 0) rfl rfl (by omega) rfl) ?_
    refine za1 rfl (za1 rfl ?_)
    refine zdh rfl rfl rfl rfl rfl ?_
    refine zc0 [[.int .i64 _], [.int .i64 _]] rfl rfl rfl (fun h => Nat.noConfusion h) rfl (by decide) rfl (y0c 1) (by show 1 + 2 ≤ _; omega) (by show 1 < 1 + 2; omega) ?_
    refine zb3 rfl rfl (by decide) (by decide) ?_
    refine zad (sp := 0) rfl rfl rfl rfl rfl rfl rfl ?_
    refine onR rfl (za1 rfl (zaw rfl rfl rfl (za7 rfl rfl (za1 rfl (zb3 rfl rfl (by omega) (by omega) (zad rfl rfl rfl rfl rfl rfl rfl (zai (zb7 (zaa (za5 rfl (zb6 (op := .add) rfl rfl rfl ?_)))))))))))
    refine za1 rfl (zai ?_)
    rw [zas j (by omega)]
    exact zav (show sk.length - (j + 1) < sk.length - j by omega) (sq (zaj q (6 + 4)) (lvF [e0, e1, e2, o'] ((some (5, 0), chM 6 [c0, c1, c2, [e] ++ zhp o'] [k0, k1, k2, none]) :: [(some (6, 0), c0.map (AV.int .i64)), (some (7, 0), c1.map (AV.int .i64)), (some (8, 0), c2.map (AV.int .i64)), (some (q + (6 + 4), 1), ([e] ++ zhp o').map (AV.int .i64))])) [] rfl rfl rfl rfl .nil (by subst ho; exact (zfg rfl rfl rfl rfl rfl (.cons rfl (.cons (.ms rfl) (.cons (.ms rfl) (.cons (.ms rfl) (.cons (.ms rfl) .nil)))) (.cons rfl (.keep (zah _)) (.cons rfl (.keep (zah _)) (.cons rfl (.keep (zah _)) (.cons (by (repeat (first | rw [za0, if_neg (by omega)] | rw [za0, if_pos rfl] | rw [za2, if_neg (by omega)] | rw [za2, if_pos rfl])); try rfl) (.keep rfl) .nil)))))))
     (l' := (b18 f n l i sk w 4 [(13, .ms 5 0 1 0 4 none), (58, .vs (cSs sk)), (59, .int .i64 (cSs sk).length), (60, .int .i64 ((j + 1 : Nat) : Int))])) (zh7 rfl rfl rfl rfl rfl rfl rfl rfl rfl rfl rfl rfl rfl rfl rfl rfl rfl (.cons rfl (.ms rfl) (.cons rfl (.same rfl) (.cons rfl (.same rfl) (.cons rfl (.same rfl) .nil)))))) (by subst ho; exact ⟨j + 1, _, [k0, k1, k2, none], _, rfl, hlt, ft ([e] ++ zhp _) _, hch, haf, rfl⟩)
 ·have hj2 : j = sk.length := by
   have : ¬ ((j : Nat) : Int) < ((cSs sk).length : Nat) := of_decide_eq_false h3
   rw [hcs] at this
   omega
  subst hj2
  rw [y0s] at hch haf
  refine onu (za8 (zb8 rfl (zbm (zao ?_))))
  refine zcn (zbl (zaa ?_))
  have := fin [k0, k1, k2, k3] [e0, e1, e2, e3] rfl haf.symm
  rw [hch] at this
  exact zf0 (zan (.cons rfl (.cons rfl (.cons rfl (.cons rfl (.cons rfl (.cons rfl (.cons rfl (.cons rfl (.cons rfl (.cons rfl (.cons rfl (.cons rfl (.cons rfl .nil)))))))))))))) this
end
def yae (f : List Ex) (_ : Unit) (p : List Int) : Unit ⊕ List Int := if (ziu f p).isEmpty = true then .inl () else .inr p
theorem zmm (f : List Ex) : ∀ C : List (List Int), zlz (yae f) C () = match badP f C with | some p => .inr p | none => .inl ()
 | [] => rfl
 | p :: C => by
  rw [zlz]
  unfold badP
  rw [List.find?_cons]
  unfold yae
  cases h : (ziu f p).isEmpty with
  | true => exact zmm f C
  | false => rfl
theorem zkm {f : List Ex} {m : Nat} : ∀ (C : List (List Int)) (s : Unit), (∀ p ∈ C, p.length = m) → Along (yae f) (fun _ p => p.length = m) C s
 | [], _, _ => trivial
 | p :: C, _, h => ⟨h p (y05 ..), fun s' _ => zkm C s' fun q hq => h q (y04 _ hq)⟩
structure I18 (D : Nat) (es : List Int) (ltm : List (Nat × AV)) (_ : Unit) (H : HS) : Prop where
 nx : D + 2 ≤ H.next
 h4 : Am.look (D + 1) H.heap = some (2, .loop .ready none 97 (zcz ltm) [87] zmb zmd (D, 1))
 h3 : Am.look D H.heap = some (1, .deferred)
 r0 : Am.look 0 H.heap = some (0, .cells [.int .i64 0])
 r1 : Am.look 1 H.heap = some (0, .cells [.nils])
 r2 : Am.look 2 H.heap = some (0, .cells [.bool false])
 r3 : Am.look 3 H.heap = some (0, .cells [.int .i64 0])
 he : Am.look 4 H.heap = some (0, .cells (es.map (AV.int .i64)))
structure J18 (D i : Nat) (p : List Int) (H : HS) : Prop where
 nx : D + 2 ≤ H.next
 h4 : ∃ tm, Am.look (D + 1) H.heap = some (2, .loop .done (some .ret) 97 tm [87] zmb zmd (D, 1))
 h3 : Am.look D H.heap = some (1, .deferred)
 r0 : Am.look 0 H.heap = some (0, .cells [.int .i64 (i : Nat)])
 r1 : Am.look 1 H.heap = some (0, .cells [vsI p])
 r2 : Am.look 2 H.heap = some (0, .cells [.bool true])
 r3 : Am.look 3 H.heap = some (0, .cells [.int .i64 0])
def M18 (D i : Nat) : Prop := i < 5 ∨ i = D ∨ i = D + 1
theorem local18 {D : Nat} (hD : 5 ≤ D) (es : List Int) (ltm : List (Nat × AV)) : Local (M18 D) (I18 D es ltm) :=
 ⟨fun s H h i hi => by have := h.nx; rcases hi with hi | hi | hi <;> omega, fun s H H' h hn hl =>
  ⟨y0q h.nx hn, (hl (D + 1) (.inr (.inr rfl))).trans h.h4, (hl D (.inr (.inl rfl))).trans h.h3, (hl 0 (.inl (by decide))).trans h.r0, (hl 1 (.inl (by decide))).trans h.r1, (hl 2 (.inl (by decide))).trans h.r2, (hl 3 (.inl (by decide))).trans h.r3, (hl 4 (.inl (by decide))).trans h.he⟩⟩
def l18 (f : List Ex) (n : Int) (l : List Sp) (m i : Nat) (C : AV) : List (Nat × AV) := [(86, C), (2, .vptr [.vs (cXs f)]), (3, .vptr [.int .i64 n, .vs (cPs l)]), (4, .mptr 0 0 0), (5, .mptr 1 0 0), (6, .mptr 2 0 0), (7, .mptr 3 0 0), (10, .ms 4 0 1 0 m (some m)), (38, .vs (cPs l)), (39, .int .i64 (cPs l).length), (40, .int .i64 (i : Nat)), (11, .vptr [.int .i64 (i : Nat)])]
set_option maxHeartbeats 2000000 in
theorem yield18 {w0 : World} {N0 D : Nat} (hD : 5 ≤ D) {f : List Ex} {m : Nat} (hsl : ∀ y ∈ f, Slim y) (hg : zcc f m = 0) (n : Int) (l : List Sp) (i : Nat) (C : AV) (es : List Int) (ha : Com Try.prog zmb zr9) (hb : Com Try.prog zmd zzs) (s : Unit) (p : List Int) (H : HS) (hp : p.length = m) (h : I18 D es (l18 f n l m i C) s H) :
  CT Try.prog w0 N0 (.yield (D + 1) 2) [vsI p] H (zwb (M18 D) (I18 D es (l18 f n l m i C)) (J18 D i) H (yae f s p)) := by
 obtain ⟨nx, h4, h3, r0, r1, r2, r3, he⟩ := h
 have h53 := whichG hsl hg hp
 refine zi1 (l0 := (87, vsI p) :: l18 f n l m i C) h4 ha hb rfl (by decide) rfl ?_
 unfold zr9
 refine za5 rfl (za1 rfl (zai ?_))
 refine zaf ⟨rfl, _, rfl, ?_⟩
 unfold zzs l18 yae
 refine zac (zsr rfl (zaw rfl rfl rfl (za7 rfl rfl (za1 rfl ?_))))
 refine zap rfl rfl h53 noC ?_
 refine zbd rfl rfl ?_
 refine zaq rfl rfl rfl (fun h6 => ?_) fun h6 => ?_
 ·have h6 : (ziu f p).isEmpty = false := by
   cases ht : ziu f p with
   | nil => rw [ht] at h6; exact absurd h6 (by decide)
   | cons _ _ => rfl
  rw [h6, if_neg (fun h => Bool.noConfusion h)]
  refine onu (zb4 rfl (zsr rfl (za7 rfl rfl (za1 rfl ?_))))
  refine zad (sp := 0) rfl rfl rfl rfl (by (repeat (first | rw [za0, if_pos rfl] | rw [za0, if_neg (by omega)] | rw [za3, if_neg (by omega)])); all_goals (first | rfl | assumption)) rfl rfl ?_
  refine zad (sp := 0) rfl rfl rfl rfl (by (repeat (first | rw [za0, if_pos rfl] | rw [za0, if_neg (by omega)] | rw [za3, if_neg (by omega)])); all_goals (first | rfl | assumption)) rfl rfl ?_
  refine zad (sp := 0) rfl rfl rfl rfl (by (repeat (first | rw [za0, if_pos rfl] | rw [za0, if_neg (by omega)] | rw [za3, if_neg (by omega)])); all_goals (first | rfl | assumption)) rfl rfl ?_
  refine zad (sp := 0) rfl rfl rfl rfl (by (repeat (first | rw [za0, if_pos rfl] | rw [za0, if_neg (by omega)] | rw [za3, if_neg (by omega)])); all_goals (first | rfl | assumption)) rfl rfl ?_
  refine onu (zak (zag ?_))
  refine zaf ⟨97, zcz (l18 f n l m i C), [87], zmb, zmd, (D, 1), ?_, some .ret, rfl, ⟨y0c _, y0c _, fun j hj _ => ?_⟩, rfl, ⟨nx, ⟨zcz (l18 f n l m i C), ?_⟩, ?_, ?_, ?_, ?_, ?_⟩⟩
  ·show Am.look (D + 1) (zax 3 _ (zax 2 _ (zax 1 _ (zax 0 _ (zax (D + 1) _ H.heap))))) = _
   exact (by (repeat (first | rw [za0, if_pos rfl] | rw [za0, if_neg (by omega)] | rw [za3, if_neg (by omega)])); all_goals (first | rfl | assumption))
  ·show Am.look j (zax (D + 1) _ (zax 3 _ (zax 2 _ (zax 1 _ (zax 0 _ (zax (D + 1) _ H.heap)))))) = _
   have h1 : D + 1 ≠ j := fun e => hj (.inr (.inr e.symm))
   have h2 : 5 ≤ j := Nat.le_of_not_lt fun e => hj (.inl e)
   rw [za0, if_neg h1, za0, if_neg (by omega), za0, if_neg (by omega), za0, if_neg (by omega), za0, if_neg (by omega), za0, if_neg h1]
  ·show Am.look (D + 1) (zax (D + 1) _ _) = _
   rw [za0, if_pos rfl]; rfl
  ·show Am.look D (zax (D + 1) _ (zax 3 _ (zax 2 _ (zax 1 _ (zax 0 _ (zax (D + 1) _ H.heap)))))) = _
   exact (by (repeat (first | rw [za0, if_pos rfl] | rw [za0, if_neg (by omega)] | rw [za3, if_neg (by omega)])); all_goals (first | rfl | assumption))
  ·show Am.look 0 (zax (D + 1) _ (zax 3 _ (zax 2 _ (zax 1 _ (zax 0 _ (zax (D + 1) _ H.heap)))))) = _
   exact (by (repeat (first | rw [za0, if_pos rfl] | rw [za0, if_neg (by omega)] | rw [za3, if_neg (by omega)])); all_goals (first | rfl | assumption))
  ·show Am.look 1 (zax (D + 1) _ (zax 3 _ (zax 2 _ (zax 1 _ (zax 0 _ (zax (D + 1) _ H.heap)))))) = _
   exact (by (repeat (first | rw [za0, if_pos rfl] | rw [za0, if_neg (by omega)] | rw [za3, if_neg (by omega)])); all_goals (first | rfl | assumption))
  ·show Am.look 2 (zax (D + 1) _ (zax 3 _ (zax 2 _ (zax 1 _ (zax 0 _ (zax (D + 1) _ H.heap)))))) = _
   exact (by (repeat (first | rw [za0, if_pos rfl] | rw [za0, if_neg (by omega)] | rw [za3, if_neg (by omega)])); all_goals (first | rfl | assumption))
  ·show Am.look 3 (zax (D + 1) _ (zax 3 _ (zax 2 _ (zax 1 _ (zax 0 _ (zax (D + 1) _ H.heap)))))) = _
   exact (by (repeat (first | rw [za0, if_pos rfl] | rw [za0, if_neg (by omega)] | rw [za3, if_neg (by omega)])); all_goals (first | rfl | assumption))
 ·have h6 : (ziu f p).isEmpty = true := by
   cases ht : ziu f p with
   | nil => rfl
   | cons _ t => rw [ht] at h6; exact absurd (show (_ : Int) > 0 from by show ((t.map _).length + 1 : Nat) > (0 : Int); omega) (of_decide_eq_false h6)
  rw [h6, if_pos rfl]
  refine onu (zb8 rfl (zab (zb7 ?_)))
  refine zaf ⟨97, zcz (l18 f n l m i C), [87], zmb, zmd, (D, 1), ?_, none, rfl, ⟨y0c _, y0c _, fun j hj _ => ?_⟩, rfl, ⟨nx, ?_, ?_, ?_, ?_, ?_, ?_, ?_⟩⟩
  ·show Am.look (D + 1) (zax (D + 1) _ H.heap) = _
   exact (by (repeat (first | rw [za0, if_pos rfl] | rw [za0, if_neg (by omega)] | rw [za3, if_neg (by omega)])); all_goals (first | rfl | assumption))
  ·show Am.look j (zax (D + 1) _ (zax (D + 1) _ H.heap)) = _
   rw [za0, if_neg (fun e => hj (.inr (.inr e.symm))), za0, if_neg (fun e => hj (.inr (.inr e.symm)))]
  ·show Am.look (D + 1) (zax (D + 1) _ _) = _
   rw [za0, if_pos rfl]; rfl
  ·show Am.look D (zax (D + 1) _ (zax (D + 1) _ H.heap)) = _
   exact (by (repeat (first | rw [za0, if_pos rfl] | rw [za0, if_neg (by omega)] | rw [za3, if_neg (by omega)])); all_goals (first | rfl | assumption))
  ·show Am.look 0 (zax (D + 1) _ (zax (D + 1) _ H.heap)) = _
   exact (by (repeat (first | rw [za0, if_pos rfl] | rw [za0, if_neg (by omega)] | rw [za3, if_neg (by omega)])); all_goals (first | rfl | assumption))
  ·show Am.look 1 (zax (D + 1) _ (zax (D + 1) _ H.heap)) = _
   exact (by (repeat (first | rw [za0, if_pos rfl] | rw [za0, if_neg (by omega)] | rw [za3, if_neg (by omega)])); all_goals (first | rfl | assumption))
  ·show Am.look 2 (zax (D + 1) _ (zax (D + 1) _ H.heap)) = _
   exact (by (repeat (first | rw [za0, if_pos rfl] | rw [za0, if_neg (by omega)] | rw [za3, if_neg (by omega)])); all_goals (first | rfl | assumption))
  ·show Am.look 3 (zax (D + 1) _ (zax (D + 1) _ H.heap)) = _
   exact (by (repeat (first | rw [za0, if_pos rfl] | rw [za0, if_neg (by omega)] | rw [za3, if_neg (by omega)])); all_goals (first | rfl | assumption))
  ·show Am.look 4 (zax (D + 1) _ (zax (D + 1) _ H.heap)) = _
   exact (by (repeat (first | rw [za0, if_pos rfl] | rw [za0, if_neg (by omega)] | rw [za3, if_neg (by omega)])); all_goals (first | rfl | assumption))
def lv5 (E : List Bool) : zgv := [(none, [.int .i64 0]), (none, [.nils]), (none, [.bool false]), (none, [.int .i64 0]), (none, (enE E).map (AV.int .i64))]
noncomputable def znt (y : IC) : IC := .seq (.region [oM 13 (.mov (.c (.nils)))] none)
 (.seq (.seq (.region [oT 45 10,
  oM 46 (.len false (.t 45)),
  oM 47 (.mov (.c (.int .i64 0)))] none)
 (.block 2 (.loop zlx)))
 (.seq (.seq (.region [oF 57 0 12,
  oN 58 57,
  oM 59 (.len false (.t 58)),
  oM 60 (.mov (.c (.int .i64 0)))] none)
 (.block 4 (.loop zly))) y))
def ztt (f : List Ex) (n : Int) (l : List Sp) (i m : Nat) (r : List (Nat × AV)) : List (Nat × AV) :=
 (2, .vptr [.vs (cXs f)]) :: (3, .vptr [.int .i64 n, .vs (cPs l)]) :: (4, .mptr 0 0 0) :: (5, .mptr 1 0 0) :: (6, .mptr 2 0 0) :: (7, .mptr 3 0 0) :: (10, .ms 4 0 1 0 m (some m)) :: (38, .vs (cPs l)) :: (39, .int .i64 (cPs l).length) :: (40, .int .i64 (i : Nat)) :: (11, .vptr [.int .i64 (i : Nat)]) :: r
theorem rl18 {live : zgv} {fz : List (Nat × Nat × List AV)} {la r : List (Nat × AV)} {f : List Ex} {n : Int} {l : List Sp} {i : Nat} {m : Nat} {c0 c1 c2 c3 c4 : List AV}
  (h2 : zbn 2 la = some (.vptr [.vs (cXs f)])) (h3 : zbn 3 la = some (.vptr [.int .i64 n, .vs (cPs l)])) (h4 : zbn 4 la = some (.mptr 0 0 0)) (h5 : zbn 5 la = some (.mptr 1 0 0)) (h6 : zbn 6 la = some (.mptr 2 0 0)) (h7 : zbn 7 la = some (.mptr 3 0 0)) (h10 : zbn 10 la = some (.ms 4 0 1 0 m (some m))) (h38 : zbn 38 la = some (.vs (cPs l))) (h39 : zbn 39 la = some (.int .i64 (cPs l).length)) (h40 : zbn 40 la = some (.int .i64 (i : Nat))) (h11 : zbn 11 la = some (.vptr [.int .i64 (i : Nat)]))
  (l0 : live[0]? = some (some (0, 0), c0)) (l1 : live[1]? = some (some (1, 0), c1)) (l2 : live[2]? = some (some (2, 0), c2)) (l3 : live[3]? = some (some (3, 0), c3)) (l4 : live[4]? = some (some (4, 0), c4)) (hr : RnA live fz la r) : RnA live fz la (ztt f n l i m r) :=
 .cons h2 (.same rfl) (.cons h3 (.same rfl) (.cons h4 (.mptr l0) (.cons h5 (.mptr l1) (.cons h6 (.mptr l2) (.cons h7 (.mptr l3) (.cons h10 (.ms l4) (.cons h38 (.same rfl) (.cons h39 (.same rfl) (.cons h40 (.same rfl) (.cons h11 (.same rfl) hr))))))))))
section
variable {w0 : World} {N0 : Nat} {k : List Fr} {Q : Exit → AS → Prop}
set_option maxHeartbeats 4000000 in
theorem cho1 (f : List Ex) (n : Int) (l : List Sp) (i : Nat) (sk : List Sk) (hsk : sk.length ≤ 6) (w : Int) (b0 : Bool) (q : Nat) {y : IC} (ok : Fit18 1 (chA [b0]) (List.replicate 1 (some 1)) [b0] sk)
  (fin : Zm Try.prog w0 N0 none y (st 97 (ztt f n l i 1 [(13, css (chS (chA [b0]) sk))]) (zc5 0 (lv5 (aft [b0] sk)) ++ zc8 5 q) (q + 5) 1 (zdz 5 q)) k Q) :
  Zm Try.prog w0 N0 none (znt y) (st 97 (b18 f n l i sk w 1 []) (zc5 0 (lv5 [b0]) ++ zc8 5 q) (q + 5) 1 (zdz 5 q)) k Q := by
 unfold znt
 refine zsr rfl (za1 rfl (onu (za8 (zsr rfl (za1 rfl (zbd rfl rfl (za1 rfl (onu (zac ?_)))))))))
 refine zq (zaj q 5) (lvF [b0] [(none, [])]) [] (b18 f n l i sk w 1 [(13, .ms 5 0 1 0 0 none), (45, .ms 4 0 1 0 1 (some 1)), (46, .int .i64 1), (47, .int .i64 ((0 : Nat) : Int))]) rfl .nil (zfg rfl rfl rfl rfl rfl (.new .nil)) (zh7 rfl rfl rfl rfl rfl rfl rfl rfl rfl rfl rfl rfl rfl rfl rfl rfl rfl (.cons rfl (.grow rfl) (.cons rfl (.ms rfl) (.cons rfl (.same rfl) (.cons rfl (.same rfl) .nil))))) ?_
 refine loopA1 f n l i sk w b0 q ?_
 refine za8 (zsr rfl (zaw rfl rfl rfl (za7 rfl rfl (zbd rfl rfl (za1 rfl (onu (zac ?_)))))))
 refine zf0 (zan (.cons rfl (.cons rfl (.cons rfl (.cons rfl (.cons rfl (.cons rfl (.cons rfl (.cons rfl (.cons rfl (.cons rfl (.cons rfl (.cons rfl (.cons rfl (.cons rfl (.cons rfl (.cons rfl .nil))))))))))))))))) (loopB1 f n l i sk hsk w (chA [b0]) (List.replicate 1 (some 1)) [b0] q ok fun ks E2 hks hE2 => ?_)
 subst hE2
 have hlE : (aft [b0] sk).length = 1 := by rw [zd6]; rfl
 have hlC : (chS (chA [b0]) sk).length = 1 := by rw [zdv]; rfl
 generalize aft [b0] sk = E2 at *
 generalize chS (chA [b0]) sk = C at *
 obtain ⟨c0, rfl⟩ := len1 hlC
 obtain ⟨k0, rfl⟩ := len1 hks
 obtain ⟨e0, rfl⟩ := len1 hlE
 refine zq (zaj q (6 + 1)) (lvF [e0] [(some (5, 0), zvt [c0])]) [(6, 0, c0.map (AV.int .i64))] (ztt f n l i 1 [(13, .ms 5 0 1 0 1 none)]) rfl (.cons rfl (zah _) .nil) (zfg rfl rfl rfl rfl rfl (.cons rfl (.cons (.fms0 rfl (by rw [y09]) (fun y hy => by obtain ⟨z, _, rfl⟩ := y0o.1 hy; rfl) (zdg _)) .nil) .nil)) (rl18 rfl rfl rfl rfl rfl rfl rfl rfl rfl rfl rfl rfl rfl rfl rfl rfl (.cons rfl (.ms rfl) .nil)) ?_
 exact zq (zaj q 6) (lvF [e0] []) [(5, 0, zvt [c0])] (ztt f n l i 1 [(13, css [c0])]) rfl (.cons rfl (zgp _) .nil) (zfg rfl rfl rfl rfl rfl .nil) (rl18 rfl rfl rfl rfl rfl rfl rfl rfl rfl rfl rfl rfl rfl rfl rfl rfl (.cons rfl (by rw [znv]; exact .fms1 rfl rfl) .nil)) fin
set_option maxHeartbeats 4000000 in
theorem cho2 (f : List Ex) (n : Int) (l : List Sp) (i : Nat) (sk : List Sk) (hsk : sk.length ≤ 6) (w : Int) (b0 b1 : Bool) (q : Nat) {y : IC} (ok : Fit18 2 (chA [b0, b1]) (List.replicate 2 (some 1)) [b0, b1] sk)
  (fin : Zm Try.prog w0 N0 none y (st 97 (ztt f n l i 2 [(13, css (chS (chA [b0, b1]) sk))]) (zc5 0 (lv5 (aft [b0, b1] sk)) ++ zc8 5 q) (q + 5) 1 (zdz 5 q)) k Q) :
  Zm Try.prog w0 N0 none (znt y) (st 97 (b18 f n l i sk w 2 []) (zc5 0 (lv5 [b0, b1]) ++ zc8 5 q) (q + 5) 1 (zdz 5 q)) k Q := by
 unfold znt
 refine zsr rfl (za1 rfl (onu (za8 (zsr rfl (za1 rfl (zbd rfl rfl (za1 rfl (onu (zac ?_)))))))))
 refine zq (zaj q 5) (lvF [b0, b1] [(none, [])]) [] (b18 f n l i sk w 2 [(13, .ms 5 0 1 0 0 none), (45, .ms 4 0 1 0 2 (some 2)), (46, .int .i64 2), (47, .int .i64 ((0 : Nat) : Int))]) rfl .nil (zfg rfl rfl rfl rfl rfl (.new .nil)) (zh7 rfl rfl rfl rfl rfl rfl rfl rfl rfl rfl rfl rfl rfl rfl rfl rfl rfl (.cons rfl (.grow rfl) (.cons rfl (.ms rfl) (.cons rfl (.same rfl) (.cons rfl (.same rfl) .nil))))) ?_
 refine loopA2 f n l i sk w b0 b1 q ?_
 refine za8 (zsr rfl (zaw rfl rfl rfl (za7 rfl rfl (zbd rfl rfl (za1 rfl (onu (zac ?_)))))))
 refine zf0 (zan (.cons rfl (.cons rfl (.cons rfl (.cons rfl (.cons rfl (.cons rfl (.cons rfl (.cons rfl (.cons rfl (.cons rfl (.cons rfl (.cons rfl (.cons rfl (.cons rfl (.cons rfl (.cons rfl .nil))))))))))))))))) (loopB2 f n l i sk hsk w (chA [b0, b1]) (List.replicate 2 (some 1)) [b0, b1] q ok fun ks E2 hks hE2 => ?_)
 subst hE2
 have hlE : (aft [b0, b1] sk).length = 2 := by rw [zd6]; rfl
 have hlC : (chS (chA [b0, b1]) sk).length = 2 := by rw [zdv]; rfl
 generalize aft [b0, b1] sk = E2 at *
 generalize chS (chA [b0, b1]) sk = C at *
 obtain ⟨c0, c1, rfl⟩ := len2 hlC
 obtain ⟨k0, k1, rfl⟩ := len2 hks
 obtain ⟨e0, e1, rfl⟩ := len2 hlE
 refine zq (zaj q (6 + 2)) (lvF [e0, e1] [(some (5, 0), zvt [c0, c1])]) [(6, 0, c0.map (AV.int .i64)), (7, 0, c1.map (AV.int .i64))] (ztt f n l i 2 [(13, .ms 5 0 1 0 2 none)]) rfl (.cons rfl (zah _) (.cons rfl (zah _) .nil)) (zfg rfl rfl rfl rfl rfl (.cons rfl (.cons (.fms0 rfl (by rw [y09]) (fun y hy => by obtain ⟨z, _, rfl⟩ := y0o.1 hy; rfl) (zdg _)) (.cons (.fms0 rfl (by rw [y09]) (fun y hy => by obtain ⟨z, _, rfl⟩ := y0o.1 hy; rfl) (zdg _)) .nil)) .nil)) (rl18 rfl rfl rfl rfl rfl rfl rfl rfl rfl rfl rfl rfl rfl rfl rfl rfl (.cons rfl (.ms rfl) .nil)) ?_
 exact zq (zaj q 6) (lvF [e0, e1] []) [(5, 0, zvt [c0, c1])] (ztt f n l i 2 [(13, css [c0, c1])]) rfl (.cons rfl (zgp _) .nil) (zfg rfl rfl rfl rfl rfl .nil) (rl18 rfl rfl rfl rfl rfl rfl rfl rfl rfl rfl rfl rfl rfl rfl rfl rfl (.cons rfl (by rw [znv]; exact .fms1 rfl rfl) .nil)) fin
set_option maxHeartbeats 4000000 in
theorem cho3 (f : List Ex) (n : Int) (l : List Sp) (i : Nat) (sk : List Sk) (hsk : sk.length ≤ 6) (w : Int) (b0 b1 b2 : Bool) (q : Nat) {y : IC} (ok : Fit18 3 (chA [b0, b1, b2]) (List.replicate 3 (some 1)) [b0, b1, b2] sk)
  (fin : Zm Try.prog w0 N0 none y (st 97 (ztt f n l i 3 [(13, css (chS (chA [b0, b1, b2]) sk))]) (zc5 0 (lv5 (aft [b0, b1, b2] sk)) ++ zc8 5 q) (q + 5) 1 (zdz 5 q)) k Q) :
  Zm Try.prog w0 N0 none (znt y) (st 97 (b18 f n l i sk w 3 []) (zc5 0 (lv5 [b0, b1, b2]) ++ zc8 5 q) (q + 5) 1 (zdz 5 q)) k Q := by
 unfold znt
 refine zsr rfl (za1 rfl (onu (za8 (zsr rfl (za1 rfl (zbd rfl rfl (za1 rfl (onu (zac ?_)))))))))
 refine zq (zaj q 5) (lvF [b0, b1, b2] [(none, [])]) [] (b18 f n l i sk w 3 [(13, .ms 5 0 1 0 0 none), (45, .ms 4 0 1 0 3 (some 3)), (46, .int .i64 3), (47, .int .i64 ((0 : Nat) : Int))]) rfl .nil (zfg rfl rfl rfl rfl rfl (.new .nil)) (zh7 rfl rfl rfl rfl rfl rfl rfl rfl rfl rfl rfl rfl rfl rfl rfl rfl rfl (.cons rfl (.grow rfl) (.cons rfl (.ms rfl) (.cons rfl (.same rfl) (.cons rfl (.same rfl) .nil))))) ?_
 refine loopA3 f n l i sk w b0 b1 b2 q ?_
 refine za8 (zsr rfl (zaw rfl rfl rfl (za7 rfl rfl (zbd rfl rfl (za1 rfl (onu (zac ?_)))))))
 refine zf0 (zan (.cons rfl (.cons rfl (.cons rfl (.cons rfl (.cons rfl (.cons rfl (.cons rfl (.cons rfl (.cons rfl (.cons rfl (.cons rfl (.cons rfl (.cons rfl (.cons rfl (.cons rfl (.cons rfl .nil))))))))))))))))) (loopB3 f n l i sk hsk w (chA [b0, b1, b2]) (List.replicate 3 (some 1)) [b0, b1, b2] q ok fun ks E2 hks hE2 => ?_)
 subst hE2
 have hlE : (aft [b0, b1, b2] sk).length = 3 := by rw [zd6]; rfl
 have hlC : (chS (chA [b0, b1, b2]) sk).length = 3 := by rw [zdv]; rfl
 generalize aft [b0, b1, b2] sk = E2 at *
 generalize chS (chA [b0, b1, b2]) sk = C at *
 obtain ⟨c0, c1, c2, rfl⟩ := len3 hlC
 obtain ⟨k0, k1, k2, rfl⟩ := len3 hks
 obtain ⟨e0, e1, e2, rfl⟩ := len3 hlE
 refine zq (zaj q (6 + 3)) (lvF [e0, e1, e2] [(some (5, 0), zvt [c0, c1, c2])]) [(6, 0, c0.map (AV.int .i64)), (7, 0, c1.map (AV.int .i64)), (8, 0, c2.map (AV.int .i64))] (ztt f n l i 3 [(13, .ms 5 0 1 0 3 none)]) rfl (.cons rfl (zah _) (.cons rfl (zah _) (.cons rfl (zah _) .nil))) (zfg rfl rfl rfl rfl rfl (.cons rfl (.cons (.fms0 rfl (by rw [y09]) (fun y hy => by obtain ⟨z, _, rfl⟩ := y0o.1 hy; rfl) (zdg _)) (.cons (.fms0 rfl (by rw [y09]) (fun y hy => by obtain ⟨z, _, rfl⟩ := y0o.1 hy; rfl) (zdg _)) (.cons (.fms0 rfl (by rw [y09]) (fun y hy => by obtain ⟨z, _, rfl⟩ := y0o.1 hy; rfl) (zdg _)) .nil))) .nil)) (rl18 rfl rfl rfl rfl rfl rfl rfl rfl rfl rfl rfl rfl rfl rfl rfl rfl (.cons rfl (.ms rfl) .nil)) ?_
 exact zq (zaj q 6) (lvF [e0, e1, e2] []) [(5, 0, zvt [c0, c1, c2])] (ztt f n l i 3 [(13, css [c0, c1, c2])]) rfl (.cons rfl (zgp _) .nil) (zfg rfl rfl rfl rfl rfl .nil) (rl18 rfl rfl rfl rfl rfl rfl rfl rfl rfl rfl rfl rfl rfl rfl rfl rfl (.cons rfl (by rw [znv]; exact .fms1 rfl rfl) .nil)) fin
set_option maxHeartbeats 4000000 in
theorem cho4 (f : List Ex) (n : Int) (l : List Sp) (i : Nat) (sk : List Sk) (hsk : sk.length ≤ 6) (w : Int) (b0 b1 b2 b3 : Bool) (q : Nat) {y : IC} (ok : Fit18 4 (chA [b0, b1, b2, b3]) (List.replicate 4 (some 1)) [b0, b1, b2, b3] sk)
  (fin : Zm Try.prog w0 N0 none y (st 97 (ztt f n l i 4 [(13, css (chS (chA [b0, b1, b2, b3]) sk))]) (zc5 0 (lv5 (aft [b0, b1, b2, b3] sk)) ++ zc8 5 q) (q + 5) 1 (zdz 5 q)) k Q) :
  Zm Try.prog w0 N0 none (znt y) (st 97 (b18 f n l i sk w 4 []) (zc5 0 (lv5 [b0, b1, b2, b3]) ++ zc8 5 q) (q + 5) 1 (zdz 5 q)) k Q := by
 unfold znt
 refine zsr rfl (za1 rfl (onu (za8 (zsr rfl (za1 rfl (zbd rfl rfl (za1 rfl (onu (zac ?_)))))))))
 refine zq (zaj q 5) (lvF [b0, b1, b2, b3] [(none, [])]) [] (b18 f n l i sk w 4 [(13, .ms 5 0 1 0 0 none), (45, .ms 4 0 1 0 4 (some 4)), (46, .int .i64 4), (47, .int .i64 ((0 : Nat) : Int))]) rfl .nil (zfg rfl rfl rfl rfl rfl (.new .nil)) (zh7 rfl rfl rfl rfl rfl rfl rfl rfl rfl rfl rfl rfl rfl rfl rfl rfl rfl (.cons rfl (.grow rfl) (.cons rfl (.ms rfl) (.cons rfl (.same rfl) (.cons rfl (.same rfl) .nil))))) ?_
 refine loopA4 f n l i sk w b0 b1 b2 b3 q ?_
 refine za8 (zsr rfl (zaw rfl rfl rfl (za7 rfl rfl (zbd rfl rfl (za1 rfl (onu (zac ?_)))))))
 refine zf0 (zan (.cons rfl (.cons rfl (.cons rfl (.cons rfl (.cons rfl (.cons rfl (.cons rfl (.cons rfl (.cons rfl (.cons rfl (.cons rfl (.cons rfl (.cons rfl (.cons rfl (.cons rfl (.cons rfl .nil))))))))))))))))) (loopB4 f n l i sk hsk w (chA [b0, b1, b2, b3]) (List.replicate 4 (some 1)) [b0, b1, b2, b3] q ok fun ks E2 hks hE2 => ?_)
 subst hE2
 have hlE : (aft [b0, b1, b2, b3] sk).length = 4 := by rw [zd6]; rfl
 have hlC : (chS (chA [b0, b1, b2, b3]) sk).length = 4 := by rw [zdv]; rfl
 generalize aft [b0, b1, b2, b3] sk = E2 at *
 generalize chS (chA [b0, b1, b2, b3]) sk = C at *
 obtain ⟨c0, c1, c2, c3, rfl⟩ := len4 hlC
 obtain ⟨k0, k1, k2, k3, rfl⟩ := len4 hks
 obtain ⟨e0, e1, e2, e3, rfl⟩ := len4 hlE
 refine zq (zaj q (6 + 4)) (lvF [e0, e1, e2, e3] [(some (5, 0), zvt [c0, c1, c2, c3])]) [(6, 0, c0.map (AV.int .i64)), (7, 0, c1.map (AV.int .i64)), (8, 0, c2.map (AV.int .i64)), (9, 0, c3.map (AV.int .i64))] (ztt f n l i 4 [(13, .ms 5 0 1 0 4 none)]) rfl (.cons rfl (zah _) (.cons rfl (zah _) (.cons rfl (zah _) (.cons rfl (zah _) .nil)))) (zfg rfl rfl rfl rfl rfl (.cons rfl (.cons (.fms0 rfl (by rw [y09]) (fun y hy => by obtain ⟨z, _, rfl⟩ := y0o.1 hy; rfl) (zdg _)) (.cons (.fms0 rfl (by rw [y09]) (fun y hy => by obtain ⟨z, _, rfl⟩ := y0o.1 hy; rfl) (zdg _)) (.cons (.fms0 rfl (by rw [y09]) (fun y hy => by obtain ⟨z, _, rfl⟩ := y0o.1 hy; rfl) (zdg _)) (.cons (.fms0 rfl (by rw [y09]) (fun y hy => by obtain ⟨z, _, rfl⟩ := y0o.1 hy; rfl) (zdg _)) .nil)))) .nil)) (rl18 rfl rfl rfl rfl rfl rfl rfl rfl rfl rfl rfl rfl rfl rfl rfl rfl (.cons rfl (.ms rfl) .nil)) ?_
 exact zq (zaj q 6) (lvF [e0, e1, e2, e3] []) [(5, 0, zvt [c0, c1, c2, c3])] (ztt f n l i 4 [(13, css [c0, c1, c2, c3])]) rfl (.cons rfl (zgp _) .nil) (zfg rfl rfl rfl rfl rfl .nil) (rl18 rfl rfl rfl rfl rfl rfl rfl rfl rfl rfl rfl rfl rfl rfl rfl rfl (.cons rfl (by rw [znv]; exact .fms1 rfl rfl) .nil)) fin
theorem zxl (f : List Ex) (n : Int) (l : List Sp) (i : Nat) (sk : List Sk) (hsk : sk.length ≤ 6) (w : Int) (E : List Bool) (m : Nat) (hE : E.length = m) (h1 : 1 ≤ m) (h4 : m ≤ 4) (q : Nat) {y : IC} (ok : Fit18 m (chA E) (List.replicate m (some 1)) E sk)
  (fin : Zm Try.prog w0 N0 none y (st 97 (ztt f n l i m [(13, css (chS (chA E) sk))]) (zc5 0 (lv5 (aft E sk)) ++ zc8 5 q) (q + 5) 1 (zdz 5 q)) k Q) :
  Zm Try.prog w0 N0 none (znt y) (st 97 (b18 f n l i sk w m []) (zc5 0 (lv5 E) ++ zc8 5 q) (q + 5) 1 (zdz 5 q)) k Q := by
 rcases (show m = 1 ∨ m = 2 ∨ m = 3 ∨ m = 4 by omega) with rfl | rfl | rfl | rfl
 ·obtain ⟨b0, rfl⟩ := len1 hE
  exact cho1 f n l i sk hsk w b0 q ok fin
 ·obtain ⟨b0, b1, rfl⟩ := len2 hE
  exact cho2 f n l i sk hsk w b0 b1 q ok fin
 ·obtain ⟨b0, b1, b2, rfl⟩ := len3 hE
  exact cho3 f n l i sk hsk w b0 b1 b2 q ok fin
 ·obtain ⟨b0, b1, b2, b3, rfl⟩ := len4 hE
  exact cho4 f n l i sk hsk w b0 b1 b2 b3 q ok fin
end
theorem six {α : Type} {x : List α} (h : x.length = 6) : ∃ a b c d e f, x = [a, b, c, d, e, f] := by
 match x, h with
 | [a, b, c, d, e, f], _ => exact ⟨a, b, c, d, e, f, rfl⟩
theorem six_ne : ∀ x0 x1 x2 x3 x4 x5 : Bool, (if true = true then !(x0 == false && (x1 == false && (x2 == false && (x3 == false && (x4 == false && (x5 == false && true)))))) else x0 == false && (x1 == false && (x2 == false && (x3 == false && (x4 == false && (x5 == false && true)))))) = true → ¬ [x0, x1, x2, x3, x4, x5] = List.replicate 6 false := by decide
theorem six_eq : ∀ x0 x1 x2 x3 x4 x5 : Bool, (if true = true then !(x0 == false && (x1 == false && (x2 == false && (x3 == false && (x4 == false && (x5 == false && true)))))) else x0 == false && (x1 == false && (x2 == false && (x3 == false && (x4 == false && (x5 == false && true)))))) = false → [x0, x1, x2, x3, x4, x5] = List.replicate 6 false := by decide
def b72_3 : IC := .seq (.region [oM 50 (.bin .lss (.t 49) (.t 48))] none)
 (.seq (.cond (.t 50) (.skip)
 (.exit 3))
 (.seq (.block 4 (.seq (.region [oM 51 (.idxs 2 (.t 47) (.t 49)),
  oL 52 2 51,
  oM 9 (.alloc [.int .i64 0, .bool false]),
  ⟨none, .store 2 (.t 9) (.t 52), none⟩] none)
 (.region [oF 53 0 9,
  oN 54 53,
  oM 55 (.idxarr 6 1 (.t 4) (.t 54)),
  ⟨none, .store 1 (.t 55) (.c (.bool true)), none⟩] none)))
 (.region [oM 56 (.bin .add (.t 49) (.c (.int .i64 1))),
  oT 49 56] none)))
def b72_1 : IC := .seq (.region [oM 33 (.bin .lss (.t 32) (.t 31))] none)
 (.seq (.cond (.t 33) (.skip)
 (.exit 1))
 (.seq (.block 2 (.seq (.region [oM 34 (.idxs 2 (.t 30) (.t 32)),
  oL 35 2 34,
  oM 6 (.alloc [.nils, .int .i64 0]),
  ⟨none, .store 2 (.t 6) (.t 35), none⟩] none)
 (.seq (.seq (.region [oL 36 2 1,
  oL 37 2 6,
  oL 38 6 3,
  oM 39 (.call (.c (.fn 120 [] [])) [(.t 36), (.t 37), (.t 38)]),
  oT 7 39] none)
 (.seq (.region [oT 40 7,
  oM 41 (.bin .neq (.t 40) (.c (.int .i64 0)))] none)
 (.cond (.t 41) (.seq (.region [oT 42 7,
  oT 2 42] none)
 (.ret))
 (.skip))))
 (.seq (.region [oL 43 6 3,
  oL 44 2 6,
  oM 45 (.call (.c (.fn 121 [] [])) [(.t 43), (.t 44)]),
  ⟨none, .store 6 (.t 3) (.t 45), none⟩] none)
 (.seq (.region [oF 46 0 6,
  oN 47 46,
  oM 48 (.len false (.t 47)),
  oM 49 (.mov (.c (.int .i64 0)))] none)
 (.block 3 (.loop b72_3)))))))
 (.region [oM 57 (.bin .add (.t 32) (.c (.int .i64 1))),
  oT 32 57] none)))
-- pneumatic/sequence.Check
def ic72 : IC := .seq (.region [oM 1 (.box (.t 0)),
  oM 2 (.mov (.c (.int .i64 0)))] none)
 (.seq (.block 0 (.seq (.region [oF 11 0 1,
  oN 12 11,
  oM 13 (.bin .lss (.t 12) (.c (.int .i64 1))),
  oT 14 13,
  ⟨(some 15), .faddr 0 (.t 1), some (14, false)⟩,
  ⟨(some 16), .load none (.t 15), some (14, false)⟩,
  ⟨(some 17), .bin .gtr (.t 16) (.c (.int .i64 6)), some (14, false)⟩,
  oM 18 (.pick (.t 14) (.c (.bool true)) (.t 17)),
  oT 10 18] none)
 (.cond (.t 10) (.seq (.region [oM 2 (.mov (.c (.int .i64 2)))] none)
 (.ret))
 (.seq (.region [oF 20 1 1,
  oN 21 20,
  oM 22 (.len false (.t 21)),
  oM 23 (.bin .eql (.t 22) (.c (.int .i64 0))),
  oT 19 23] none)
 (.cond (.t 19) (.seq (.region [oM 2 (.mov (.c (.int .i64 13)))] none)
 (.ret))
 (.seq (.region [oF 25 1 1,
  oN 26 25,
  oM 27 (.len false (.t 26)),
  oM 28 (.bin .gtr (.t 27) (.c (.int .i64 64))),
  oT 24 28] none)
 (.cond (.t 24) (.seq (.region [oM 2 (.mov (.c (.int .i64 5)))] none)
 (.ret))
 (.skip))))))))
 (.seq (.region [oM 3 (.alloc [.bool false, .bool false, .bool false, .bool false, .bool false, .bool false]),
  oM 4 (.alloc [.bool false, .bool false, .bool false, .bool false, .bool false, .bool false])] none)
 (.seq (.seq (.region [oF 29 1 1,
  oN 30 29,
  oM 31 (.len false (.t 30)),
  oM 32 (.mov (.c (.int .i64 0)))] none)
 (.block 1 (.loop b72_1)))
 (.seq (.seq (.region [oL 58 6 3,
  oM 59 (.build [.bool false, .bool false, .bool false, .bool false, .bool false, .bool false] []),
  oM 60 (.eqs true [(0, .bool), (1, .bool), (2, .bool), (3, .bool), (4, .bool), (5, .bool)] (.t 58) (.t 59))] none)
 (.cond (.t 60) (.seq (.region [oM 2 (.mov (.c (.int .i64 9)))] none)
 (.ret))
 (.skip)))
 (.seq (.seq (.region [oF 61 0 1,
  oN 62 61,
  oM 63 (.slarr 6 1 (.t 4) none (some (.t 62))),
  oM 64 (.call (.c (.fn 122 [] [])) [(.t 63), (.c (.bool false))])] none)
 (.cond (.t 64) (.seq (.region [oM 2 (.mov (.c (.int .i64 13)))] none)
 (.ret))
 (.skip)))
 (.seq (.region [oM 2 (.mov (.c (.int .i64 0)))] none)
 (.ret)))))))
theorem fn72 : env0.fn 72 = some ⟨65, ic72, [.t 2]⟩ := by kernel_rfl
section
variable {w0 : World} {N0 : Nat} {k : List Fr} {Q : Exit → AS → Prop}
set_option maxHeartbeats 2000000 in
theorem mark72 (n : Int) (l : List Sp) (i : Nat) (q : List Sk) (w : Int) (x m : List Bool) (hql : q.length ≤ 100) (ha : ∀ s ∈ q, 0 ≤ s.a ∧ s.a < 6) (hm : m.length = 6) {y : IC}
  (fin : Zm Try.prog w0 N0 none y (st 65 [(1, .vptr [.int .i64 n, .vs (cPs l)]), (3, .mptr 0 0 0), (4, .mptr 1 0 0), (30, .vs (cPs l)), (31, .int .i64 (cPs l).length), (32, .int .i64 (i : Nat))] [(0, 0, .cells (x.map AV.bool)), (1, 0, .cells ((mvd m q).map AV.bool))] 2 1) k Q) :
  Zm Try.prog w0 N0 none (.loop b72_3) (st 65 [(1, .vptr [.int .i64 n, .vs (cPs l)]), (3, .mptr 0 0 0), (4, .mptr 1 0 0), (30, .vs (cPs l)), (31, .int .i64 (cPs l).length), (32, .int .i64 (i : Nat)), (47, .vs (cSs q)), (48, .int .i64 (cSs q).length), (49, .int .i64 0)] [(0, 0, .cells (x.map AV.bool)), (1, 0, .cells (m.map AV.bool))] 2 1) (.blk 3 :: .blk 2 :: .seq y :: k) Q := by
 have hcl : (cSs q).length = q.length := zc3 q
 refine zbu (fun mm S => ∃ j, mm = q.length - j ∧ j ≤ q.length ∧
   S = st 65 [(1, .vptr [.int .i64 n, .vs (cPs l)]), (3, .mptr 0 0 0), (4, .mptr 1 0 0), (30, .vs (cPs l)), (31, .int .i64 (cPs l).length), (32, .int .i64 (i : Nat)), (47, .vs (cSs q)), (48, .int .i64 (cSs q).length), (49, .int .i64 (j : Nat))] [(0, 0, .cells (x.map AV.bool)), (1, 0, .cells ((mvd m (q.take j)).map AV.bool))] 2 1) q.length
  (zan (.cons rfl (.cons rfl (.cons rfl (.cons rfl (.cons rfl (.cons rfl (.cons rfl (.cons rfl (.cons rfl .nil)))))))))) ⟨0, rfl, y0t _, rfl⟩ ?_
 rintro mm S ⟨j, rfl, hj, rfl⟩
 unfold b72_3
 refine zsr rfl ?_
 refine zaq rfl rfl rfl (fun h3 => ?_) fun h3 => ?_
 ·have hlt : j < q.length := by
   have : ((j : Nat) : Int) < ((cSs q).length : Nat) := of_decide_eq_true h3
   rw [hcl] at this
   omega
  have hg := zdo hlt
  have htk := mvd_take (x := m) hlt
  have hml := zjb (q.take j) m
  rw [hm] at hml
  obtain ⟨ha0, ha1⟩ := ha _ (y0y hlt)
  generalize q[j] = s at hg htk ha0 ha1
  obtain ⟨a, o⟩ := s
  have ha0 : 0 ≤ a := ha0
  have ha1 : a < 6 := ha1
  have hg : (cSs q)[((j : Nat) : Int).toNat]? = some [.int .i64 a, .bool o] := hg
  have htk : mvd m (q.take (j + 1)) = (mvd m (q.take j)).set a.toNat true := htk
  generalize mvd m (q.take j) = M at hml htk
  have hset : (M.map AV.bool).set (0 + a.toNat * 1) (.bool true) = (M.set a.toNat true).map AV.bool := by rw [List.map_set, Nat.mul_one, y1r]
  refine onu (za8 (zb4 rfl (zab (zaa (za8 (zac (zsr rfl (zbh rfl rfl (by omega) (by assumption) rfl (zam rfl rfl rfl rfl (zau (zad rfl rfl rfl rfl rfl rfl rfl ?_)))))))))))
  refine onR rfl (za9 rfl (za7 rfl rfl (zev rfl rfl (decide_eq_true ⟨by omega, by omega⟩) ?_)))
  refine ze0 rfl rfl rfl rfl (by rw [y09]; omega) rfl ?_
  rw [hset]
  refine zai (zb7 (zaa (za5 rfl (zb6 (op := .add) rfl rfl rfl (za1 rfl (zai ?_))))))
  rw [zas j (by omega)]
  exact zav (show q.length - (j + 1) < q.length - j by omega) (zcp [(some (0, 0), x.map AV.bool), (some (1, 0), (M.set a.toNat true).map AV.bool)] [] rfl rfl rfl .nil (.cons rfl (.keep (zbx _)) (.cons rfl (.keep (zbx _)) .nil)) (.cons rfl (.same rfl) (.cons rfl (.mptr rfl) (.cons rfl (.mptr rfl) (.cons rfl (.same rfl) (.cons rfl (.same rfl) (.cons rfl (.same rfl) (.cons rfl (.same rfl) (.cons rfl (.same rfl) (.cons rfl (.same rfl) .nil)))))))))) ⟨j + 1, rfl, hlt, by rw [htk]; rfl⟩
 ·have hj2 : j = q.length := by
   have : ¬ ((j : Nat) : Int) < ((cSs q).length : Nat) := of_decide_eq_false h3
   rw [hcl] at this
   omega
  subst hj2
  rw [y2a]
  refine onu (za8 (zb8 rfl (zbm (zao ?_))))
  refine zcn ?_
  refine zbl (zb7 (zaa ?_))
  exact zf0 (zan (.cons rfl (.cons rfl (.cons rfl (.cons rfl (.cons rfl (.cons rfl .nil))))))) fin
set_option maxHeartbeats 4000000 in
theorem seq72 (n : Int) (l : List Sp) (hl : l.length ≤ 1000000) : PF Try.prog 72 [.agg (cQ n l)] (.int .i64 (chkP n l)) := by
 have hcl : (cPs l).length = l.length := zfh l
 refine zb1 env0_ok fn72 [(0, .agg [.int .i64 n, .vs (cPs l)])] (by show 1 ≤ 65; decide) rfl fun w0 N0 => ?_
 unfold ic72 chkP
 refine zsr rfl (zc1 rfl rfl (za1 rfl (onu (za8 (zac (zsr rfl (za9 rfl (za7 rfl rfl ?_))))))))
 refine zaq rfl rfl rfl (fun h => ?_) fun h => ?_
 ·have h : n < 1 := of_decide_eq_true h
  rw [if_pos (.inl h)]
  refine za1 rfl (zbz rfl rfl (zbz rfl rfl (zbz rfl rfl (zat rfl rfl (za1 rfl (onu (zb4 rfl (zsr rfl (za1 rfl (onu ?_))))))))))
  refine zak (zag (za4 ?_))
  exact zaf ⟨.inr rfl, _, rfl, rfl⟩
 have h : ¬ n < 1 := of_decide_eq_false h
 refine za1 rfl (zbc rfl (za9 rfl (zbc rfl (za7 rfl rfl (zbc rfl ?_)))))
 refine zaq rfl rfl rfl (fun h6 => ?_) fun h6 => ?_
 ·have h6 : n > 6 := of_decide_eq_true h6
  rw [if_pos (.inr h6)]
  refine zal rfl rfl (za1 rfl (onu (zb4 rfl (zsr rfl (za1 rfl (onu (zak (zag (za4 ?_)))))))))
  exact zaf ⟨.inr rfl, _, rfl, rfl⟩
 have h6 : ¬ n > 6 := of_decide_eq_false h6
 rw [if_neg (by omega)]
 refine zal rfl rfl (za1 rfl (onu (zb8 rfl (zsr rfl (za9 rfl (za7 rfl rfl (zbd rfl rfl ?_)))))))
 refine zaq rfl rfl rfl (fun h2 => ?_) fun h2 => ?_
 ·have h2 : (((cPs l).length : Nat) : Int) = 0 := by simpa using h2
  rw [if_pos (by omega)]
  refine za1 rfl (onu (zb4 rfl (zsr rfl (za1 rfl (onu (zak (zag (za4 ?_))))))))
  exact zaf ⟨.inr rfl, _, rfl, rfl⟩
 have h2 : ¬ (((cPs l).length : Nat) : Int) = 0 := by simpa using h2
 rw [if_neg (by omega)]
 refine za1 rfl (onu (zb8 rfl (zsr rfl (za9 rfl (za7 rfl rfl (zbd rfl rfl ?_))))))
 refine zaq rfl rfl rfl (fun h3 => ?_) fun h3 => ?_
 ·have h3 : (((cPs l).length : Nat) : Int) > 64 := of_decide_eq_true h3
  rw [if_pos (by omega)]
  refine za1 rfl (onu (zb4 rfl (zsr rfl (za1 rfl (onu (zak (zag (za4 ?_))))))))
  exact zaf ⟨.inr rfl, _, rfl, rfl⟩
 have h3 : ¬ (((cPs l).length : Nat) : Int) > 64 := of_decide_eq_false h3
 rw [if_neg (by omega)]
 refine za1 rfl (onu (zb8 rfl (zab (zb7 (zaa (zsr rfl (zau (zau (onu (za8 ?_))))))))))
 refine zsr rfl (za9 rfl (za7 rfl rfl (zbd rfl rfl (za1 rfl (onu (zac ?_))))))
 refine zbu (fun mm S => ∃ i x m, mm = l.length - i ∧ i ≤ l.length ∧ x.length = 6 ∧ m.length = 6 ∧ seqC n l (List.replicate 6 false) (List.replicate 6 false) = seqC n (l.drop i) x m ∧
   S = st 65 [(1, .vptr [.int .i64 n, .vs (cPs l)]), (3, .mptr 0 0 0), (4, .mptr 1 0 0), (30, .vs (cPs l)), (31, .int .i64 (cPs l).length), (32, .int .i64 (i : Nat))] [(0, 0, .cells (x.map AV.bool)), (1, 0, .cells (m.map AV.bool))] 2 1) l.length
  (zcp [(some (1, 1), (List.replicate 6 false).map AV.bool), (some (2, 2), (List.replicate 6 false).map AV.bool)] [(0, 0, [.int .i64 n, .vs (cPs l)])] rfl rfl rfl (.cons rfl rfl .nil) (.cons rfl (.keep rfl) (.cons rfl (.keep rfl) .nil)) (l' := [(1, .vptr [.int .i64 n, .vs (cPs l)]), (3, .mptr 0 0 0), (4, .mptr 1 0 0), (30, .vs (cPs l)), (31, .int .i64 (cPs l).length), (32, .int .i64 ((0 : Nat) : Int))]) (.cons rfl (.fptr rfl rfl) (.cons rfl (.mptr rfl) (.cons rfl (.mptr rfl) (.cons rfl (.same rfl) (.cons rfl (.same rfl) (.cons rfl (.same rfl) .nil))))))) ⟨0, _, _, rfl, y0t _, rfl, rfl, rfl, rfl⟩ ?_
 rintro mm S ⟨i, x, m, rfl, hi, hx, hm, hall, rfl⟩
 rw [hall]
 clear hall
 unfold b72_1
 refine zsr rfl ?_
 refine zaq rfl rfl rfl (fun h4 => ?_) fun h4 => ?_
 ·have hlt : i < l.length := by
   have : ((i : Nat) : Int) < ((cPs l).length : Nat) := of_decide_eq_true h4
   rw [hcl] at this
   omega
  rw [y0g hlt, seqC]
  have hg := zrh hlt
  generalize l[i] = p at hg ⊢
  obtain ⟨q, w⟩ := p
  have hg : (cPs l)[((i : Nat) : Int).toNat]? = some [.vs (cSs q), .int .i64 w] := hg
  have p1 : PF Try.prog 120 [.agg [.int .i64 n, .vs (cPs l)], .agg [.vs (cSs q), .int .i64 w], .agg (x.map AV.bool)] (.int .i64 (fitC n ⟨q, w⟩ x)) := fits76 n l ⟨q, w⟩ x hx
  by_cases hf : fitC n ⟨q, w⟩ x = 0
  ·have hsp : spC ⟨q, w⟩ = 0 := by
    unfold fitC at hf
    split at hf
    ·rename_i h1; exact absurd hf h1
    ·rename_i h1; simpa using h1
   obtain ⟨hq, ha⟩ := zqu hsp
   have hq : q.length ≤ 6 := hq
   have ha : ∀ s ∈ q, 0 ≤ s.a ∧ s.a < 6 := ha
   have p2 : PF Try.prog 121 [.agg (x.map AV.bool), .agg [.vs (cSs q), .int .i64 w]] (.agg ((aft x q).map AV.bool)) := zt4 ⟨q, w⟩ x (by show q.length ≤ _; omega) hx ha
   rw [hf] at p1 ⊢
   rw [if_neg (by decide)]
   have hal := zd6 q x
   rw [hx] at hal
   have hml : (mvd m q).length = 6 := by rw [zjb]; exact hm
   generalize aft x q = X at p2 hal ⊢
   obtain ⟨x0, x1, x2, x3, x4, x5, rfl⟩ := six hx
   obtain ⟨y0, y1, y2, y3, y4, y5, rfl⟩ := six hal
   obtain ⟨m0, m1, m2, m3, m4, m5, rfl⟩ := six hm
   repeat (first | refine za8 ?_ | refine za5 rfl ?_ | refine zai ?_ | refine zaa ?_ | refine zac ?_ | refine zab ?_ | refine zb4 rfl ?_ | refine zam rfl rfl rfl rfl ?_ | refine zad rfl rfl rfl rfl rfl rfl rfl ?_ | refine zau ?_ | refine zbh rfl rfl (by omega) (by assumption) rfl ?_)
   refine zap rfl rfl p1 noC ?_
   repeat (first | refine za8 ?_ | refine za5 rfl ?_ | refine zai ?_ | refine zaa ?_ | refine zab ?_ | refine zb8 rfl ?_ | refine za1 rfl ?_ | refine zam rfl rfl rfl rfl ?_ | refine zci rfl rfl rfl ?_)
   refine zap rfl rfl p2 noC ?_
   refine zad rfl rfl rfl rfl rfl rfl rfl (onr rfl (za9 rfl (za7 rfl rfl (zbd rfl rfl (za1 rfl (onu (zac ?_)))))))
   refine zeg [(some (0, 0), [y0, y1, y2, y3, y4, y5].map AV.bool), (some (1, 0), [m0, m1, m2, m3, m4, m5].map AV.bool)] [] [(1, .vptr [.int .i64 n, .vs (cPs l)]), (3, .mptr 0 0 0), (4, .mptr 1 0 0), (30, .vs (cPs l)), (31, .int .i64 (cPs l).length), (32, .int .i64 (i : Nat)), (47, .vs (cSs q)), (48, .int .i64 (cSs q).length), (49, .int .i64 0)] rfl .nil (.cons rfl (.keep rfl) (.cons rfl (.keep rfl) .nil)) (.cons rfl (.same rfl) (.cons rfl (.mptr rfl) (.cons rfl (.mptr rfl) (.cons rfl (.same rfl) (.cons rfl (.same rfl) (.cons rfl (.same rfl) (.cons rfl (.same rfl) (.cons rfl (.same rfl) (.cons rfl (.same rfl) .nil))))))))) ?_
   refine mark72 n l i q w [y0, y1, y2, y3, y4, y5] [m0, m1, m2, m3, m4, m5] (by omega) ha rfl ?_
   refine za5 rfl (zb6 (op := .add) rfl rfl rfl (za1 rfl (zai ?_)))
   rw [zas i (by omega)]
   exact zav (show l.length - (i + 1) < l.length - i by omega) (zcp [(some (0, 0), [y0, y1, y2, y3, y4, y5].map AV.bool), (some (1, 0), (mvd [m0, m1, m2, m3, m4, m5] q).map AV.bool)] [] rfl rfl rfl .nil (.cons rfl (.keep rfl) (.cons rfl (.keep (zbx _)) .nil)) (.cons rfl (.same rfl) (.cons rfl (.mptr rfl) (.cons rfl (.mptr rfl) (.cons rfl (.same rfl) (.cons rfl (.same rfl) (.cons rfl (.same rfl) .nil))))))) ⟨i + 1, _, _, rfl, hlt, rfl, hml, rfl, rfl⟩
  ·obtain ⟨x0, x1, x2, x3, x4, x5, rfl⟩ := six hx
   rw [if_pos hf]
   repeat (first | refine za8 ?_ | refine za5 rfl ?_ | refine zai ?_ | refine zaa ?_ | refine zac ?_ | refine zab ?_ | refine zb4 rfl ?_ | refine zam rfl rfl rfl rfl ?_ | refine zad rfl rfl rfl rfl rfl rfl rfl ?_ | refine zau ?_ | refine zbh rfl rfl (by omega) (by assumption) rfl ?_)
   refine zap rfl rfl p1 noC ?_
   refine za1 rfl (onr rfl (za1 rfl ?_))
   refine zaq rfl rfl rfl (fun h5 => ?_) fun h5 => absurd (by simpa using h5) hf
   refine onu (zb4 rfl (zsr rfl (za1 rfl (za1 rfl (onu (zak (za4 (zag (za4 ?_)))))))))
   refine zbb ?_
   refine zag (za4 ?_)
   exact zaf ⟨.inr rfl, _, rfl, rfl⟩
 ·have hi2 : i = l.length := by
   have : ¬ ((i : Nat) : Int) < ((cPs l).length : Nat) := of_decide_eq_false h4
   rw [hcl] at this
   omega
  subst hi2
  rw [y0s, seqC]
  obtain ⟨x0, x1, x2, x3, x4, x5, rfl⟩ := six hx
  obtain ⟨m0, m1, m2, m3, m4, m5, rfl⟩ := six hm
  refine onu (za8 (zb8 rfl (zbm (zao ?_))))
  refine zcn ?_
  refine zbl (zaa (za8 (zsr rfl (zam rfl rfl rfl rfl (zfd rfl rfl ?_)))))
  refine o_eqs rfl rfl rfl (fun h => ?_) fun h => ?_
  ·rw [if_neg (six_ne _ _ _ _ _ _ h)]
   refine onu (zb4 rfl (zsr rfl (za1 rfl (onu (zak (za4 ?_))))))
   exact zaf ⟨.inr rfl, _, rfl, rfl⟩
  rw [if_pos (six_eq _ _ _ _ _ _ h)]
  clear h
  have hn : n = 1 ∨ n = 2 ∨ n = 3 ∨ n = 4 ∨ n = 5 ∨ n = 6 := by omega
  rcases hn with rfl | rfl | rfl | rfl | rfl | rfl
  ·have p3 := zel [m0] (by simp) false
   refine onu (zb8 rfl (zab (zaa (za8 (zsr rfl (zaw rfl rfl rfl (za7 rfl rfl ?_)))))))
   refine zhj rfl rfl rfl rfl rfl (by decide) ?_
   refine zap rfl rfl p3 (fun _ => rfl) ?_
   show Om _ _ _ _ _ _ _ _ fun e S' => (e = Exit.normal ∨ e = Exit.ret) ∧ ∃ v0, _ ∧ _ = AV.int IntKind.i64 (if ([m0].any fun x => x == false) = true then 13 else 0)
   cases [m0].any (· == false)
   all_goals
    repeat (first | refine za8 ?_ | refine za5 rfl ?_ | refine zai ?_ | refine zaa ?_ | refine zab ?_ | refine zb4 rfl ?_ | refine zb8 rfl ?_ | refine zak ?_ | refine za4 ?_ | refine za1 rfl ?_)
    exact zaf ⟨.inr rfl, _, rfl, rfl⟩
  ·have p3 := zel [m0, m1] (by simp) false
   refine onu (zb8 rfl (zab (zaa (za8 (zsr rfl (zaw rfl rfl rfl (za7 rfl rfl ?_)))))))
   refine zhj rfl rfl rfl rfl rfl (by decide) ?_
   refine zap rfl rfl p3 (fun _ => rfl) ?_
   show Om _ _ _ _ _ _ _ _ fun e S' => (e = Exit.normal ∨ e = Exit.ret) ∧ ∃ v0, _ ∧ _ = AV.int IntKind.i64 (if ([m0, m1].any fun x => x == false) = true then 13 else 0)
   cases [m0, m1].any (· == false)
   all_goals
    repeat (first | refine za8 ?_ | refine za5 rfl ?_ | refine zai ?_ | refine zaa ?_ | refine zab ?_ | refine zb4 rfl ?_ | refine zb8 rfl ?_ | refine zak ?_ | refine za4 ?_ | refine za1 rfl ?_)
    exact zaf ⟨.inr rfl, _, rfl, rfl⟩
  ·have p3 := zel [m0, m1, m2] (by simp) false
   refine onu (zb8 rfl (zab (zaa (za8 (zsr rfl (zaw rfl rfl rfl (za7 rfl rfl ?_)))))))
   refine zhj rfl rfl rfl rfl rfl (by decide) ?_
   refine zap rfl rfl p3 (fun _ => rfl) ?_
   show Om _ _ _ _ _ _ _ _ fun e S' => (e = Exit.normal ∨ e = Exit.ret) ∧ ∃ v0, _ ∧ _ = AV.int IntKind.i64 (if ([m0, m1, m2].any fun x => x == false) = true then 13 else 0)
   cases [m0, m1, m2].any (· == false)
   all_goals
    repeat (first | refine za8 ?_ | refine za5 rfl ?_ | refine zai ?_ | refine zaa ?_ | refine zab ?_ | refine zb4 rfl ?_ | refine zb8 rfl ?_ | refine zak ?_ | refine za4 ?_ | refine za1 rfl ?_)
    exact zaf ⟨.inr rfl, _, rfl, rfl⟩
  ·have p3 := zel [m0, m1, m2, m3] (by simp) false
   refine onu (zb8 rfl (zab (zaa (za8 (zsr rfl (zaw rfl rfl rfl (za7 rfl rfl ?_)))))))
   refine zhj rfl rfl rfl rfl rfl (by decide) ?_
   refine zap rfl rfl p3 (fun _ => rfl) ?_
   show Om _ _ _ _ _ _ _ _ fun e S' => (e = Exit.normal ∨ e = Exit.ret) ∧ ∃ v0, _ ∧ _ = AV.int IntKind.i64 (if ([m0, m1, m2, m3].any fun x => x == false) = true then 13 else 0)
   cases [m0, m1, m2, m3].any (· == false)
   all_goals
    repeat (first | refine za8 ?_ | refine za5 rfl ?_ | refine zai ?_ | refine zaa ?_ | refine zab ?_ | refine zb4 rfl ?_ | refine zb8 rfl ?_ | refine zak ?_ | refine za4 ?_ | refine za1 rfl ?_)
    exact zaf ⟨.inr rfl, _, rfl, rfl⟩
  ·have p3 := zel [m0, m1, m2, m3, m4] (by simp) false
   refine onu (zb8 rfl (zab (zaa (za8 (zsr rfl (zaw rfl rfl rfl (za7 rfl rfl ?_)))))))
   refine zhj rfl rfl rfl rfl rfl (by decide) ?_
   refine zap rfl rfl p3 (fun _ => rfl) ?_
   show Om _ _ _ _ _ _ _ _ fun e S' => (e = Exit.normal ∨ e = Exit.ret) ∧ ∃ v0, _ ∧ _ = AV.int IntKind.i64 (if ([m0, m1, m2, m3, m4].any fun x => x == false) = true then 13 else 0)
   cases [m0, m1, m2, m3, m4].any (· == false)
   all_goals
    repeat (first | refine za8 ?_ | refine za5 rfl ?_ | refine zai ?_ | refine zaa ?_ | refine zab ?_ | refine zb4 rfl ?_ | refine zb8 rfl ?_ | refine zak ?_ | refine za4 ?_ | refine za1 rfl ?_)
    exact zaf ⟨.inr rfl, _, rfl, rfl⟩
  ·have p3 := zel [m0, m1, m2, m3, m4, m5] (by simp) false
   refine onu (zb8 rfl (zab (zaa (za8 (zsr rfl (zaw rfl rfl rfl (za7 rfl rfl ?_)))))))
   refine zhj rfl rfl rfl rfl rfl (by decide) ?_
   refine zap rfl rfl p3 (fun _ => rfl) ?_
   show Om _ _ _ _ _ _ _ _ fun e S' => (e = Exit.normal ∨ e = Exit.ret) ∧ ∃ v0, _ ∧ _ = AV.int IntKind.i64 (if ([m0, m1, m2, m3, m4, m5].any fun x => x == false) = true then 13 else 0)
   cases [m0, m1, m2, m3, m4, m5].any (· == false)
   all_goals
    repeat (first | refine za8 ?_ | refine za5 rfl ?_ | refine zai ?_ | refine zaa ?_ | refine zab ?_ | refine zb4 rfl ?_ | refine zb8 rfl ?_ | refine zak ?_ | refine za4 ?_ | refine za1 rfl ?_)
    exact zaf ⟨.inr rfl, _, rfl, rfl⟩
end
end Go.Proofs.Ytoiblgbaeglgoaa
