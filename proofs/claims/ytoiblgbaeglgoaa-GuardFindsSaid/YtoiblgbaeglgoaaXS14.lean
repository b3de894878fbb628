/-
  THE CHOICES OF A STEP: the second loop of guard.Danger.
-/
import Derived.Test.YtoiblgbaeglgoaaXS13
namespace Go.Proofs.Ytoiblgbaeglgoaa
open Go Go.Am
section
variable {P : Program} {w0 : World} {N0 : Nat} {k : List Fr} {Q : Exit → AS → Prop} {n nx ck : Nat} {mk : List (Nat × Nat)} {md : Md} {l : List (Nat × AV)} {hp : List (Nat × Nat × AObj)}
theorem zfb {a : Arg} {id sp off : Nat} {cs ws : List AV} {v : AV} (h : zbv a l = some (.mptr id sp off)) (hl : Am.look id hp = some (sp, .cells cs)) (hid : id < nx) (hv : cs.drop off = v :: ws) : iop (st n l hp nx ck mk) (.load none a) = some (v, st n l hp nx ck mk) := by
 have hd : (st n l hp nx ck mk).deref (.mptr id sp off) = some (v :: ws) := by
  simp only [AS.deref, show (st n l hp nx ck mk).heap = hp from rfl, hl]
  rw [if_pos ⟨trivial, hid⟩, hv]
 simp only [iop, zbl, h, hd]
end
structure Fit18 (m : Nat) (C : List (List Int)) (ks : List (Option Nat)) (E : List Bool) (r : List Sk) : Prop where
 hC : C.length = m
 hk : ks.length = m
 hE : E.length = m
 at' : ∀ s ∈ r, 0 ≤ s.a ∧ s.a < m ∧ (∃ e, C.getD s.a.toNat [] = [e]) ∧ ks.getD s.a.toNat none = some 1
 asc : ∃ z, zh0 z r = 0
theorem Fit18.tail {m : Nat} {C : List (List Int)} {ks : List (Option Nat)} {E : List Bool} {s : Sk} {r : List Sk} (h : Fit18 m C ks E (s :: r)) (c : List Int) (o : Bool) : Fit18 m (C.set s.a.toNat c) (ks.set s.a.toNat none) (E.set s.a.toNat o) r := by
 obtain ⟨z, hz⟩ := h.asc
 have hr := zqe r _ (zks hz)
 obtain ⟨a0, a1, _⟩ := h.at' s (List.mem_cons_self ..)
 refine ⟨by rw [List.length_set]; exact h.hC, by rw [List.length_set]; exact h.hk, by rw [List.length_set]; exact h.hE, fun t ht => ?_, ⟨s.a, zks hz⟩⟩
 obtain ⟨b0, b1, b2, b3⟩ := h.at' t (List.mem_cons_of_mem _ ht)
 have hgt := hr t ht
 have hne : s.a.toNat ≠ t.a.toNat := by omega
 refine ⟨b0, b1, ?_, ?_⟩
 ·rw [List.getD_eq_getElem?_getD, List.getElem?_set_ne hne, ← List.getD_eq_getElem?_getD]; exact b2
 ·rw [List.getD_eq_getElem?_getD, List.getElem?_set_ne hne, ← List.getD_eq_getElem?_getD]; exact b3
theorem zuu {n : Int} {E : List Bool} {p : Sp} (h : StpOk n E p) (hE : (E.length : Int) = n) : Fit18 E.length (chA E) (List.replicate E.length (some 1)) E p.l := by
 refine ⟨List.length_map .., List.length_replicate .., rfl, fun s hs => ?_, ⟨-1, zwl h.sp⟩⟩
 obtain ⟨a0, a1⟩ := h.acts hE s hs
 have ha : s.a.toNat < E.length := by omega
 refine ⟨a0, a1, ⟨zgm E[s.a.toNat], ?_⟩, ?_⟩
 ·unfold chA
  rw [List.getD_eq_getElem?_getD, List.getElem?_map, List.getElem?_eq_getElem ha]
  rfl
 ·rw [List.getD_eq_getElem?_getD, List.getElem?_replicate, if_pos ha]
  rfl
section
variable {w0 : World} {N0 : Nat} {k : List Fr} {Q : Exit → AS → Prop}
theorem len1 {α : Type} {x : List α} (h : x.length = 1) : ∃ a0, x = [a0] := by
 match x, h with
 | [a0], _ => exact ⟨a0, rfl⟩
set_option maxHeartbeats 8000000 in
theorem loopB1 (f : List Ex) (n : Int) (l : List Sp) (i : Nat) (sk : List Sk) (hsk : sk.length ≤ 6) (w : Int) (C0 : List (List Int)) (k0 : List (Option Nat)) (E0 : List Bool) (q : Nat) {y : IC} (ok : Fit18 1 C0 k0 E0 sk)
  (fin : ∀ ks E2, ks.length = 1 → E2 = aft E0 sk → Zm Try.prog w0 N0 none y (st 97 (b18 f n l i sk w 1 [(13, .ms 5 0 1 0 1 none)]) (zc9 0 (zj8 E2 (chS C0 sk) ks) ++ zcc (6 + 1) q) (q + (6 + 1)) 1 (ze5 (6 + 1) q)) k Q) :
  Zm Try.prog w0 N0 none (.loop zl0) (st 97 (b18 f n l i sk w 1 [(13, .ms 5 0 1 0 1 none), (58, .vs (cSs sk)), (59, .int .i64 (cSs sk).length), (60, .int .i64 ((0 : Nat) : Int))]) (zc9 0 (zj8 E0 C0 k0) ++ zcc (6 + 1) q) (q + (6 + 1)) 1 (ze5 (6 + 1) q)) (.blk 4 :: .seq y :: k) Q := by
 have hcs : (cSs sk).length = sk.length := zc7 sk
 refine zbq (fun mm S => ∃ j C ks E, mm = sk.length - j ∧ j ≤ sk.length ∧ Fit18 1 C ks E (sk.drop j) ∧ chS C0 sk = chS C (sk.drop j) ∧ aft E0 sk = aft E (sk.drop j) ∧ S = st 97 (b18 f n l i sk w 1 [(13, .ms 5 0 1 0 1 none), (58, .vs (cSs sk)), (59, .int .i64 (cSs sk).length), (60, .int .i64 ((j : Nat) : Int))]) (zc9 0 (zj8 E C ks) ++ zcc (6 + 1) q) (q + (6 + 1)) 1 (ze5 (6 + 1) q)) sk.length
  (zao (.cons rfl (.cons rfl (.cons rfl (.cons rfl (.cons rfl (.cons rfl (.cons rfl (.cons rfl (.cons rfl (.cons rfl (.cons rfl (.cons rfl (.cons rfl (.cons rfl (.cons rfl (.cons rfl .nil))))))))))))))))) ⟨0, C0, k0, E0, rfl, Nat.zero_le _, ok, rfl, rfl, rfl⟩ ?_
 rintro mm S ⟨j, C, ks, E, rfl, hj, fit, hch, haf, rfl⟩
 obtain ⟨c0, rfl⟩ := len1 fit.hC
 obtain ⟨k0, rfl⟩ := len1 fit.hk
 obtain ⟨e0, rfl⟩ := len1 fit.hE
 unfold zl0
 repeat (first | refine za6 ?_ | refine za0 rfl ?_)
 refine zar rfl rfl rfl (fun h3 => ?_) fun h3 => ?_
 ·have hlt : j < sk.length := by
   have : ((j : Nat) : Int) < ((cSs sk).length : Nat) := of_decide_eq_true h3
   rw [hcs] at this
   omega
  rw [List.drop_eq_getElem_cons hlt] at fit hch haf
  have hg := zdm hlt
  generalize sk[j] = s at fit hch haf hg
  obtain ⟨a0, a1, ⟨e, hce⟩, hks⟩ := fit.at' s (List.mem_cons_self ..)
  have ft := fun c o => fit.tail c o
  clear fit
  obtain ⟨a, o⟩ := s
  have a0 : 0 ≤ a := a0
  have a1 : a < 1 := a1
  have hg : (cSs sk)[((j : Nat) : Int).toNat]? = some [.int .i64 a, .bool o] := hg
  rcases (show a = 0 by omega) with rfl
  ·have hce : c0 = [e] := hce
   have hks : k0 = some 1 := hks
   subst hce hks
   repeat (first | refine za6 ?_ | refine za0 rfl ?_ | refine za3 ?_ | refine za2 ?_ | refine zad ?_ | refine zab ?_ | refine zb0 rfl ?_ | refine zas rfl rfl rfl rfl ?_ | refine zax ?_ | refine zb1 rfl rfl (by omega) (by assumption) rfl ?_)
   refine zal rfl rfl rfl rfl zaz rfl rfl ?_
   rw [zcj]
   refine za3 (za2 ?_)
   refine zq (zan q (6 + 1)) (lvF [e0] [(some (5, 0), chM 6 [[e]] [some 1]), (some (6, 0), [.int .i64 e])]) [(q + (6 + 1), 1, [.int .i64 0, .bool o])] (b18 f n l i sk w 1 [(13, .ms 5 0 1 0 1 none), (58, .vs (cSs sk)), (59, .int .i64 (cSs sk).length), (60, .int .i64 ((j : Nat) : Int)), (17, .vptr [.int .i64 0, .bool o])]) rfl (.cons (by (repeat (first | rw [za1, if_neg (by omega)] | rw [za1, if_pos rfl] | rw [za7, if_neg (by omega)] | rw [za7, if_pos rfl])); try rfl) rfl .nil) (zff rfl rfl rfl rfl rfl (.cons rfl (.cons (.ms rfl) .nil) (.cons rfl (.keep rfl) .nil))) (zgu rfl rfl rfl rfl rfl rfl rfl rfl rfl rfl rfl rfl rfl rfl rfl rfl rfl (.cons rfl (.ms rfl) (.cons rfl (.same rfl) (.cons rfl (.same rfl) (.cons rfl (.same rfl) (.cons rfl (.fptr (by simp [fzl]) rfl) .nil)))))) ?_
   show Zm _ _ _ _ _ (st _ _ _ (q + (6 + 1)) 1 _) _ _
   obtain ⟨o', ho⟩ : ∃ o', o' = o := ⟨_, rfl⟩
   cases o
   all_goals
    repeat (first | refine za6 ?_ | refine za0 rfl ?_ | refine za3 ?_ | refine za2 ?_ | refine zab ?_ | refine zb0 rfl ?_ | refine zb8 rfl ?_ | refine za4 rfl ?_ | refine za8 rfl rfl ?_ | refine zah rfl rfl rfl ?_)
    refine ze8 env0_ok (fun d => Nat.beq d 76) (fun d => Nat.beq d 73) [] (fun x hx => absurd hx List.not_mem_nil) (fun _ => false) [] (fun x hx => absurd hx List.not_mem_nil) (fun _ => false) rfl rfl rfl ?_
    repeat (first | refine za4 rfl ?_ | refine za8 rfl rfl ?_ | refine zah rfl rfl rfl ?_ | refine zaw rfl rfl (by omega) (by omega) ?_)
    refine o_lo rfl (zfb (sp := 0) rfl rfl (by omega) rfl) ?_
    repeat (first | refine za4 rfl ?_)
    refine zdj rfl rfl rfl rfl rfl ?_
    refine zbz [[.int .i64 _], [.int .i64 _]] rfl rfl rfl (fun h => Nat.noConfusion h) rfl (by decide) rfl (Nat.le_refl 1) (by show 1 + 2 ≤ _; omega) (by show 1 < 1 + 2; omega) ?_
    refine zaw rfl rfl (by decide) (by decide) ?_
    refine zal (sp := 0) rfl rfl rfl rfl rfl rfl rfl ?_
    repeat (first | refine za0 rfl ?_ | refine za3 ?_ | refine za2 ?_ | refine zb6 ?_ | refine za4 rfl ?_ | refine za8 rfl rfl ?_ | refine zal rfl rfl rfl rfl rfl rfl rfl ?_ | refine zah rfl rfl rfl ?_ | refine zay (op := .add) rfl rfl rfl ?_ | refine zaw rfl rfl (by omega) (by omega) ?_)
    rw [zaq j (by omega)]
    exact zat (show sk.length - (j + 1) < sk.length - j by omega) (sq (zan q (6 + 1)) (lvF [o'] ((some (5, 0), chM 6 [[e] ++ zhd o'] [none]) :: [(some (q + (6 + 1), 1), ([e] ++ zhd o').map (AV.int .i64))])) [] rfl rfl rfl rfl .nil (by subst ho; exact (zff rfl rfl rfl rfl rfl (.cons rfl (.cons (.ms rfl) .nil) (.cons (by (repeat (first | rw [za1, if_neg (by omega)] | rw [za1, if_pos rfl] | rw [za7, if_neg (by omega)] | rw [za7, if_pos rfl])); try rfl) (.keep rfl) .nil))))
     (l' := (b18 f n l i sk w 1 [(13, .ms 5 0 1 0 1 none), (58, .vs (cSs sk)), (59, .int .i64 (cSs sk).length), (60, .int .i64 ((j + 1 : Nat) : Int))])) (zgu rfl rfl rfl rfl rfl rfl rfl rfl rfl rfl rfl rfl rfl rfl rfl rfl rfl (.cons rfl (.ms rfl) (.cons rfl (.same rfl) (.cons rfl (.same rfl) (.cons rfl (.same rfl) .nil)))))) (by subst ho; exact ⟨j + 1, _, [none], _, rfl, hlt, ft ([e] ++ zhd _) _, hch, haf, rfl⟩)
 ·have hj2 : j = sk.length := by
   have : ¬ ((j : Nat) : Int) < ((cSs sk).length : Nat) := of_decide_eq_false h3
   rw [hcs] at this
   omega
  subst hj2
  rw [List.drop_length] at hch haf
  repeat (first | refine za6 ?_ | refine za3 ?_ | refine za2 ?_ | refine zb8 rfl ?_ | refine zbb ?_ | refine zaj ?_)
  refine zcl (zba (za2 ?_))
  have := fin [k0] [e0] rfl haf.symm
  rw [hch] at this
  exact zen (zao (.cons rfl (.cons rfl (.cons rfl (.cons rfl (.cons rfl (.cons rfl (.cons rfl (.cons rfl (.cons rfl (.cons rfl (.cons rfl (.cons rfl (.cons rfl .nil)))))))))))))) this
theorem len2 {α : Type} {x : List α} (h : x.length = 2) : ∃ a0 a1, x = [a0, a1] := by
 match x, h with
 | [a0, a1], _ => exact ⟨a0, a1, rfl⟩
set_option maxHeartbeats 8000000 in
theorem loopB2 (f : List Ex) (n : Int) (l : List Sp) (i : Nat) (sk : List Sk) (hsk : sk.length ≤ 6) (w : Int) (C0 : List (List Int)) (k0 : List (Option Nat)) (E0 : List Bool) (q : Nat) {y : IC} (ok : Fit18 2 C0 k0 E0 sk)
  (fin : ∀ ks E2, ks.length = 2 → E2 = aft E0 sk → Zm Try.prog w0 N0 none y (st 97 (b18 f n l i sk w 2 [(13, .ms 5 0 1 0 2 none)]) (zc9 0 (zj8 E2 (chS C0 sk) ks) ++ zcc (6 + 2) q) (q + (6 + 2)) 1 (ze5 (6 + 2) q)) k Q) :
  Zm Try.prog w0 N0 none (.loop zl0) (st 97 (b18 f n l i sk w 2 [(13, .ms 5 0 1 0 2 none), (58, .vs (cSs sk)), (59, .int .i64 (cSs sk).length), (60, .int .i64 ((0 : Nat) : Int))]) (zc9 0 (zj8 E0 C0 k0) ++ zcc (6 + 2) q) (q + (6 + 2)) 1 (ze5 (6 + 2) q)) (.blk 4 :: .seq y :: k) Q := by
 have hcs : (cSs sk).length = sk.length := zc7 sk
 refine zbq (fun mm S => ∃ j C ks E, mm = sk.length - j ∧ j ≤ sk.length ∧ Fit18 2 C ks E (sk.drop j) ∧ chS C0 sk = chS C (sk.drop j) ∧ aft E0 sk = aft E (sk.drop j) ∧ S = st 97 (b18 f n l i sk w 2 [(13, .ms 5 0 1 0 2 none), (58, .vs (cSs sk)), (59, .int .i64 (cSs sk).length), (60, .int .i64 ((j : Nat) : Int))]) (zc9 0 (zj8 E C ks) ++ zcc (6 + 2) q) (q + (6 + 2)) 1 (ze5 (6 + 2) q)) sk.length
  (zao (.cons rfl (.cons rfl (.cons rfl (.cons rfl (.cons rfl (.cons rfl (.cons rfl (.cons rfl (.cons rfl (.cons rfl (.cons rfl (.cons rfl (.cons rfl (.cons rfl (.cons rfl (.cons rfl .nil))))))))))))))))) ⟨0, C0, k0, E0, rfl, Nat.zero_le _, ok, rfl, rfl, rfl⟩ ?_
 rintro mm S ⟨j, C, ks, E, rfl, hj, fit, hch, haf, rfl⟩
 obtain ⟨c0, c1, rfl⟩ := len2 fit.hC
 obtain ⟨k0, k1, rfl⟩ := len2 fit.hk
 obtain ⟨e0, e1, rfl⟩ := len2 fit.hE
 unfold zl0
 repeat (first | refine za6 ?_ | refine za0 rfl ?_)
 refine zar rfl rfl rfl (fun h3 => ?_) fun h3 => ?_
 ·have hlt : j < sk.length := by
   have : ((j : Nat) : Int) < ((cSs sk).length : Nat) := of_decide_eq_true h3
   rw [hcs] at this
   omega
  rw [List.drop_eq_getElem_cons hlt] at fit hch haf
  have hg := zdm hlt
  generalize sk[j] = s at fit hch haf hg
  obtain ⟨a0, a1, ⟨e, hce⟩, hks⟩ := fit.at' s (List.mem_cons_self ..)
  have ft := fun c o => fit.tail c o
  clear fit
  obtain ⟨a, o⟩ := s
  have a0 : 0 ≤ a := a0
  have a1 : a < 2 := a1
  have hg : (cSs sk)[((j : Nat) : Int).toNat]? = some [.int .i64 a, .bool o] := hg
  rcases (show a = 0 ∨ a = 1 by omega) with rfl | rfl
  ·have hce : c0 = [e] := hce
   have hks : k0 = some 1 := hks
   subst hce hks
   repeat (first | refine za6 ?_ | refine za0 rfl ?_ | refine za3 ?_ | refine za2 ?_ | refine zad ?_ | refine zab ?_ | refine zb0 rfl ?_ | refine zas rfl rfl rfl rfl ?_ | refine zax ?_ | refine zb1 rfl rfl (by omega) (by assumption) rfl ?_)
   refine zal rfl rfl rfl rfl zaz rfl rfl ?_
   rw [zcj]
   refine za3 (za2 ?_)
   refine zq (zan q (6 + 2)) (lvF [e0, e1] [(some (5, 0), chM 6 [[e], c1] [some 1, k1]), (some (6, 0), [.int .i64 e]), (some (7, 0), c1.map (AV.int .i64))]) [(q + (6 + 2), 1, [.int .i64 0, .bool o])] (b18 f n l i sk w 2 [(13, .ms 5 0 1 0 2 none), (58, .vs (cSs sk)), (59, .int .i64 (cSs sk).length), (60, .int .i64 ((j : Nat) : Int)), (17, .vptr [.int .i64 0, .bool o])]) rfl (.cons (by (repeat (first | rw [za1, if_neg (by omega)] | rw [za1, if_pos rfl] | rw [za7, if_neg (by omega)] | rw [za7, if_pos rfl])); try rfl) rfl .nil) (zff rfl rfl rfl rfl rfl (.cons rfl (.cons (.ms rfl) (.cons (.ms rfl) .nil)) (.cons rfl (.keep rfl) (.cons rfl (.keep (zai _)) .nil)))) (zgu rfl rfl rfl rfl rfl rfl rfl rfl rfl rfl rfl rfl rfl rfl rfl rfl rfl (.cons rfl (.ms rfl) (.cons rfl (.same rfl) (.cons rfl (.same rfl) (.cons rfl (.same rfl) (.cons rfl (.fptr (by simp [fzl]) rfl) .nil)))))) ?_
   show Zm _ _ _ _ _ (st _ _ _ (q + (6 + 2)) 1 _) _ _
   obtain ⟨o', ho⟩ : ∃ o', o' = o := ⟨_, rfl⟩
   cases o
   all_goals
    repeat (first | refine za6 ?_ | refine za0 rfl ?_ | refine za3 ?_ | refine za2 ?_ | refine zab ?_ | refine zb0 rfl ?_ | refine zb8 rfl ?_ | refine za4 rfl ?_ | refine za8 rfl rfl ?_ | refine zah rfl rfl rfl ?_)
    refine ze8 env0_ok (fun d => Nat.beq d 76) (fun d => Nat.beq d 73) [] (fun x hx => absurd hx List.not_mem_nil) (fun _ => false) [] (fun x hx => absurd hx List.not_mem_nil) (fun _ => false) rfl rfl rfl ?_
    repeat (first | refine za4 rfl ?_ | refine za8 rfl rfl ?_ | refine zah rfl rfl rfl ?_ | refine zaw rfl rfl (by omega) (by omega) ?_)
    refine o_lo rfl (zfb (sp := 0) rfl rfl (by omega) rfl) ?_
    repeat (first | refine za4 rfl ?_)
    refine zdj rfl rfl rfl rfl rfl ?_
    refine zbz [[.int .i64 _], [.int .i64 _]] rfl rfl rfl (fun h => Nat.noConfusion h) rfl (by decide) rfl (Nat.le_refl 1) (by show 1 + 2 ≤ _; omega) (by show 1 < 1 + 2; omega) ?_
    refine zaw rfl rfl (by decide) (by decide) ?_
    refine zal (sp := 0) rfl rfl rfl rfl rfl rfl rfl ?_
    repeat (first | refine za0 rfl ?_ | refine za3 ?_ | refine za2 ?_ | refine zb6 ?_ | refine za4 rfl ?_ | refine za8 rfl rfl ?_ | refine zal rfl rfl rfl rfl rfl rfl rfl ?_ | refine zah rfl rfl rfl ?_ | refine zay (op := .add) rfl rfl rfl ?_ | refine zaw rfl rfl (by omega) (by omega) ?_)
    rw [zaq j (by omega)]
    exact zat (show sk.length - (j + 1) < sk.length - j by omega) (sq (zan q (6 + 2)) (lvF [o', e1] ((some (5, 0), chM 6 [[e] ++ zhd o', c1] [none, k1]) :: [(some (q + (6 + 2), 1), ([e] ++ zhd o').map (AV.int .i64)), (some (7, 0), c1.map (AV.int .i64))])) [] rfl rfl rfl rfl .nil (by subst ho; exact (zff rfl rfl rfl rfl rfl (.cons rfl (.cons (.ms rfl) (.cons (.ms rfl) .nil)) (.cons (by (repeat (first | rw [za1, if_neg (by omega)] | rw [za1, if_pos rfl] | rw [za7, if_neg (by omega)] | rw [za7, if_pos rfl])); try rfl) (.keep rfl) (.cons rfl (.keep (zai _)) .nil)))))
     (l' := (b18 f n l i sk w 2 [(13, .ms 5 0 1 0 2 none), (58, .vs (cSs sk)), (59, .int .i64 (cSs sk).length), (60, .int .i64 ((j + 1 : Nat) : Int))])) (zgu rfl rfl rfl rfl rfl rfl rfl rfl rfl rfl rfl rfl rfl rfl rfl rfl rfl (.cons rfl (.ms rfl) (.cons rfl (.same rfl) (.cons rfl (.same rfl) (.cons rfl (.same rfl) .nil)))))) (by subst ho; exact ⟨j + 1, _, [none, k1], _, rfl, hlt, ft ([e] ++ zhd _) _, hch, haf, rfl⟩)
  ·have hce : c1 = [e] := hce
   have hks : k1 = some 1 := hks
   subst hce hks
   repeat (first | refine za6 ?_ | refine za0 rfl ?_ | refine za3 ?_ | refine za2 ?_ | refine zad ?_ | refine zab ?_ | refine zb0 rfl ?_ | refine zas rfl rfl rfl rfl ?_ | refine zax ?_ | refine zb1 rfl rfl (by omega) (by assumption) rfl ?_)
   refine zal rfl rfl rfl rfl zaz rfl rfl ?_
   rw [zcj]
   refine za3 (za2 ?_)
   refine zq (zan q (6 + 2)) (lvF [e0, e1] [(some (5, 0), chM 6 [c0, [e]] [k0, some 1]), (some (6, 0), c0.map (AV.int .i64)), (some (7, 0), [.int .i64 e])]) [(q + (6 + 2), 1, [.int .i64 1, .bool o])] (b18 f n l i sk w 2 [(13, .ms 5 0 1 0 2 none), (58, .vs (cSs sk)), (59, .int .i64 (cSs sk).length), (60, .int .i64 ((j : Nat) : Int)), (17, .vptr [.int .i64 1, .bool o])]) rfl (.cons (by (repeat (first | rw [za1, if_neg (by omega)] | rw [za1, if_pos rfl] | rw [za7, if_neg (by omega)] | rw [za7, if_pos rfl])); try rfl) rfl .nil) (zff rfl rfl rfl rfl rfl (.cons rfl (.cons (.ms rfl) (.cons (.ms rfl) .nil)) (.cons rfl (.keep (zai _)) (.cons rfl (.keep rfl) .nil)))) (zgu rfl rfl rfl rfl rfl rfl rfl rfl rfl rfl rfl rfl rfl rfl rfl rfl rfl (.cons rfl (.ms rfl) (.cons rfl (.same rfl) (.cons rfl (.same rfl) (.cons rfl (.same rfl) (.cons rfl (.fptr (by simp [fzl]) rfl) .nil)))))) ?_
   show Zm _ _ _ _ _ (st _ _ _ (q + (6 + 2)) 1 _) _ _
   obtain ⟨o', ho⟩ : ∃ o', o' = o := ⟨_, rfl⟩
   cases o
   all_goals
    repeat (first | refine za6 ?_ | refine za0 rfl ?_ | refine za3 ?_ | refine za2 ?_ | refine zab ?_ | refine zb0 rfl ?_ | refine zb8 rfl ?_ | refine za4 rfl ?_ | refine za8 rfl rfl ?_ | refine zah rfl rfl rfl ?_)
    refine ze8 env0_ok (fun d => Nat.beq d 76) (fun d => Nat.beq d 73) [] (fun x hx => absurd hx List.not_mem_nil) (fun _ => false) [] (fun x hx => absurd hx List.not_mem_nil) (fun _ => false) rfl rfl rfl ?_
    repeat (first | refine za4 rfl ?_ | refine za8 rfl rfl ?_ | refine zah rfl rfl rfl ?_ | refine zaw rfl rfl (by omega) (by omega) ?_)
    refine o_lo rfl (zfb (sp := 0) rfl rfl (by omega) rfl) ?_
    repeat (first | refine za4 rfl ?_)
    refine zdj rfl rfl rfl rfl rfl ?_
    refine zbz [[.int .i64 _], [.int .i64 _]] rfl rfl rfl (fun h => Nat.noConfusion h) rfl (by decide) rfl (Nat.le_refl 1) (by show 1 + 2 ≤ _; omega) (by show 1 < 1 + 2; omega) ?_
    refine zaw rfl rfl (by decide) (by decide) ?_
    refine zal (sp := 0) rfl rfl rfl rfl rfl rfl rfl ?_
    repeat (first | refine za0 rfl ?_ | refine za3 ?_ | refine za2 ?_ | refine zb6 ?_ | refine za4 rfl ?_ | refine za8 rfl rfl ?_ | refine zal rfl rfl rfl rfl rfl rfl rfl ?_ | refine zah rfl rfl rfl ?_ | refine zay (op := .add) rfl rfl rfl ?_ | refine zaw rfl rfl (by omega) (by omega) ?_)
    rw [zaq j (by omega)]
    exact zat (show sk.length - (j + 1) < sk.length - j by omega) (sq (zan q (6 + 2)) (lvF [e0, o'] ((some (5, 0), chM 6 [c0, [e] ++ zhd o'] [k0, none]) :: [(some (6, 0), c0.map (AV.int .i64)), (some (q + (6 + 2), 1), ([e] ++ zhd o').map (AV.int .i64))])) [] rfl rfl rfl rfl .nil (by subst ho; exact (zff rfl rfl rfl rfl rfl (.cons rfl (.cons (.ms rfl) (.cons (.ms rfl) .nil)) (.cons rfl (.keep (zai _)) (.cons (by (repeat (first | rw [za1, if_neg (by omega)] | rw [za1, if_pos rfl] | rw [za7, if_neg (by omega)] | rw [za7, if_pos rfl])); try rfl) (.keep rfl) .nil)))))
     (l' := (b18 f n l i sk w 2 [(13, .ms 5 0 1 0 2 none), (58, .vs (cSs sk)), (59, .int .i64 (cSs sk).length), (60, .int .i64 ((j + 1 : Nat) : Int))])) (zgu rfl rfl rfl rfl rfl rfl rfl rfl rfl rfl rfl rfl rfl rfl rfl rfl rfl (.cons rfl (.ms rfl) (.cons rfl (.same rfl) (.cons rfl (.same rfl) (.cons rfl (.same rfl) .nil)))))) (by subst ho; exact ⟨j + 1, _, [k0, none], _, rfl, hlt, ft ([e] ++ zhd _) _, hch, haf, rfl⟩)
 ·have hj2 : j = sk.length := by
   have : ¬ ((j : Nat) : Int) < ((cSs sk).length : Nat) := of_decide_eq_false h3
   rw [hcs] at this
   omega
  subst hj2
  rw [List.drop_length] at hch haf
  repeat (first | refine za6 ?_ | refine za3 ?_ | refine za2 ?_ | refine zb8 rfl ?_ | refine zbb ?_ | refine zaj ?_)
  refine zcl (zba (za2 ?_))
  have := fin [k0, k1] [e0, e1] rfl haf.symm
  rw [hch] at this
  exact zen (zao (.cons rfl (.cons rfl (.cons rfl (.cons rfl (.cons rfl (.cons rfl (.cons rfl (.cons rfl (.cons rfl (.cons rfl (.cons rfl (.cons rfl (.cons rfl .nil)))))))))))))) this
theorem len3 {α : Type} {x : List α} (h : x.length = 3) : ∃ a0 a1 a2, x = [a0, a1, a2] := by
 match x, h with
 | [a0, a1, a2], _ => exact ⟨a0, a1, a2, rfl⟩
set_option maxHeartbeats 8000000 in
theorem loopB3 (f : List Ex) (n : Int) (l : List Sp) (i : Nat) (sk : List Sk) (hsk : sk.length ≤ 6) (w : Int) (C0 : List (List Int)) (k0 : List (Option Nat)) (E0 : List Bool) (q : Nat) {y : IC} (ok : Fit18 3 C0 k0 E0 sk)
  (fin : ∀ ks E2, ks.length = 3 → E2 = aft E0 sk → Zm Try.prog w0 N0 none y (st 97 (b18 f n l i sk w 3 [(13, .ms 5 0 1 0 3 none)]) (zc9 0 (zj8 E2 (chS C0 sk) ks) ++ zcc (6 + 3) q) (q + (6 + 3)) 1 (ze5 (6 + 3) q)) k Q) :
  Zm Try.prog w0 N0 none (.loop zl0) (st 97 (b18 f n l i sk w 3 [(13, .ms 5 0 1 0 3 none), (58, .vs (cSs sk)), (59, .int .i64 (cSs sk).length), (60, .int .i64 ((0 : Nat) : Int))]) (zc9 0 (zj8 E0 C0 k0) ++ zcc (6 + 3) q) (q + (6 + 3)) 1 (ze5 (6 + 3) q)) (.blk 4 :: .seq y :: k) Q := by
 have hcs : (cSs sk).length = sk.length := zc7 sk
 refine zbq (fun mm S => ∃ j C ks E, mm = sk.length - j ∧ j ≤ sk.length ∧ Fit18 3 C ks E (sk.drop j) ∧ chS C0 sk = chS C (sk.drop j) ∧ aft E0 sk = aft E (sk.drop j) ∧ S = st 97 (b18 f n l i sk w 3 [(13, .ms 5 0 1 0 3 none), (58, .vs (cSs sk)), (59, .int .i64 (cSs sk).length), (60, .int .i64 ((j : Nat) : Int))]) (zc9 0 (zj8 E C ks) ++ zcc (6 + 3) q) (q + (6 + 3)) 1 (ze5 (6 + 3) q)) sk.length
  (zao (.cons rfl (.cons rfl (.cons rfl (.cons rfl (.cons rfl (.cons rfl (.cons rfl (.cons rfl (.cons rfl (.cons rfl (.cons rfl (.cons rfl (.cons rfl (.cons rfl (.cons rfl (.cons rfl .nil))))))))))))))))) ⟨0, C0, k0, E0, rfl, Nat.zero_le _, ok, rfl, rfl, rfl⟩ ?_
 rintro mm S ⟨j, C, ks, E, rfl, hj, fit, hch, haf, rfl⟩
 obtain ⟨c0, c1, c2, rfl⟩ := len3 fit.hC
 obtain ⟨k0, k1, k2, rfl⟩ := len3 fit.hk
 obtain ⟨e0, e1, e2, rfl⟩ := len3 fit.hE
 unfold zl0
 repeat (first | refine za6 ?_ | refine za0 rfl ?_)
 refine zar rfl rfl rfl (fun h3 => ?_) fun h3 => ?_
 ·have hlt : j < sk.length := by
   have : ((j : Nat) : Int) < ((cSs sk).length : Nat) := of_decide_eq_true h3
   rw [hcs] at this
   omega
  rw [List.drop_eq_getElem_cons hlt] at fit hch haf
  have hg := zdm hlt
  generalize sk[j] = s at fit hch haf hg
  obtain ⟨a0, a1, ⟨e, hce⟩, hks⟩ := fit.at' s (List.mem_cons_self ..)
  have ft := fun c o => fit.tail c o
  clear fit
  obtain ⟨a, o⟩ := s
  have a0 : 0 ≤ a := a0
  have a1 : a < 3 := a1
  have hg : (cSs sk)[((j : Nat) : Int).toNat]? = some [.int .i64 a, .bool o] := hg
  rcases (show a = 0 ∨ a = 1 ∨ a = 2 by omega) with rfl | rfl | rfl
  ·have hce : c0 = [e] := hce
   have hks : k0 = some 1 := hks
   subst hce hks
   repeat (first | refine za6 ?_ | refine za0 rfl ?_ | refine za3 ?_ | refine za2 ?_ | refine zad ?_ | refine zab ?_ | refine zb0 rfl ?_ | refine zas rfl rfl rfl rfl ?_ | refine zax ?_ | refine zb1 rfl rfl (by omega) (by assumption) rfl ?_)
   refine zal rfl rfl rfl rfl zaz rfl rfl ?_
   rw [zcj]
   refine za3 (za2 ?_)
   refine zq (zan q (6 + 3)) (lvF [e0, e1, e2] [(some (5, 0), chM 6 [[e], c1, c2] [some 1, k1, k2]), (some (6, 0), [.int .i64 e]), (some (7, 0), c1.map (AV.int .i64)), (some (8, 0), c2.map (AV.int .i64))]) [(q + (6 + 3), 1, [.int .i64 0, .bool o])] (b18 f n l i sk w 3 [(13, .ms 5 0 1 0 3 none), (58, .vs (cSs sk)), (59, .int .i64 (cSs sk).length), (60, .int .i64 ((j : Nat) : Int)), (17, .vptr [.int .i64 0, .bool o])]) rfl (.cons (by (repeat (first | rw [za1, if_neg (by omega)] | rw [za1, if_pos rfl] | rw [za7, if_neg (by omega)] | rw [za7, if_pos rfl])); try rfl) rfl .nil) (zff rfl rfl rfl rfl rfl (.cons rfl (.cons (.ms rfl) (.cons (.ms rfl) (.cons (.ms rfl) .nil))) (.cons rfl (.keep rfl) (.cons rfl (.keep (zai _)) (.cons rfl (.keep (zai _)) .nil))))) (zgu rfl rfl rfl rfl rfl rfl rfl rfl rfl rfl rfl rfl rfl rfl rfl rfl rfl (.cons rfl (.ms rfl) (.cons rfl (.same rfl) (.cons rfl (.same rfl) (.cons rfl (.same rfl) (.cons rfl (.fptr (by simp [fzl]) rfl) .nil)))))) ?_
   show Zm _ _ _ _ _ (st _ _ _ (q + (6 + 3)) 1 _) _ _
   obtain ⟨o', ho⟩ : ∃ o', o' = o := ⟨_, rfl⟩
   cases o
   all_goals
    repeat (first | refine za6 ?_ | refine za0 rfl ?_ | refine za3 ?_ | refine za2 ?_ | refine zab ?_ | refine zb0 rfl ?_ | refine zb8 rfl ?_ | refine za4 rfl ?_ | refine za8 rfl rfl ?_ | refine zah rfl rfl rfl ?_)
    refine ze8 env0_ok (fun d => Nat.beq d 76) (fun d => Nat.beq d 73) [] (fun x hx => absurd hx List.not_mem_nil) (fun _ => false) [] (fun x hx => absurd hx List.not_mem_nil) (fun _ => false) rfl rfl rfl ?_
    repeat (first | refine za4 rfl ?_ | refine za8 rfl rfl ?_ | refine zah rfl rfl rfl ?_ | refine zaw rfl rfl (by omega) (by omega) ?_)
    refine o_lo rfl (zfb (sp := 0) rfl rfl (by omega) rfl) ?_
    repeat (first | refine za4 rfl ?_)
    refine zdj rfl rfl rfl rfl rfl ?_
    refine zbz [[.int .i64 _], [.int .i64 _]] rfl rfl rfl (fun h => Nat.noConfusion h) rfl (by decide) rfl (Nat.le_refl 1) (by show 1 + 2 ≤ _; omega) (by show 1 < 1 + 2; omega) ?_
    refine zaw rfl rfl (by decide) (by decide) ?_
    refine zal (sp := 0) rfl rfl rfl rfl rfl rfl rfl ?_
    repeat (first | refine za0 rfl ?_ | refine za3 ?_ | refine za2 ?_ | refine zb6 ?_ | refine za4 rfl ?_ | refine za8 rfl rfl ?_ | refine zal rfl rfl rfl rfl rfl rfl rfl ?_ | refine zah rfl rfl rfl ?_ | refine zay (op := .add) rfl rfl rfl ?_ | refine zaw rfl rfl (by omega) (by omega) ?_)
    rw [zaq j (by omega)]
    exact zat (show sk.length - (j + 1) < sk.length - j by omega) (sq (zan q (6 + 3)) (lvF [o', e1, e2] ((some (5, 0), chM 6 [[e] ++ zhd o', c1, c2] [none, k1, k2]) :: [(some (q + (6 + 3), 1), ([e] ++ zhd o').map (AV.int .i64)), (some (7, 0), c1.map (AV.int .i64)), (some (8, 0), c2.map (AV.int .i64))])) [] rfl rfl rfl rfl .nil (by subst ho; exact (zff rfl rfl rfl rfl rfl (.cons rfl (.cons (.ms rfl) (.cons (.ms rfl) (.cons (.ms rfl) .nil))) (.cons (by (repeat (first | rw [za1, if_neg (by omega)] | rw [za1, if_pos rfl] | rw [za7, if_neg (by omega)] | rw [za7, if_pos rfl])); try rfl) (.keep rfl) (.cons rfl (.keep (zai _)) (.cons rfl (.keep (zai _)) .nil))))))
     (l' := (b18 f n l i sk w 3 [(13, .ms 5 0 1 0 3 none), (58, .vs (cSs sk)), (59, .int .i64 (cSs sk).length), (60, .int .i64 ((j + 1 : Nat) : Int))])) (zgu rfl rfl rfl rfl rfl rfl rfl rfl rfl rfl rfl rfl rfl rfl rfl rfl rfl (.cons rfl (.ms rfl) (.cons rfl (.same rfl) (.cons rfl (.same rfl) (.cons rfl (.same rfl) .nil)))))) (by subst ho; exact ⟨j + 1, _, [none, k1, k2], _, rfl, hlt, ft ([e] ++ zhd _) _, hch, haf, rfl⟩)
  ·have hce : c1 = [e] := hce
   have hks : k1 = some 1 := hks
   subst hce hks
   repeat (first | refine za6 ?_ | refine za0 rfl ?_ | refine za3 ?_ | refine za2 ?_ | refine zad ?_ | refine zab ?_ | refine zb0 rfl ?_ | refine zas rfl rfl rfl rfl ?_ | refine zax ?_ | refine zb1 rfl rfl (by omega) (by assumption) rfl ?_)
   refine zal rfl rfl rfl rfl zaz rfl rfl ?_
   rw [zcj]
   refine za3 (za2 ?_)
   refine zq (zan q (6 + 3)) (lvF [e0, e1, e2] [(some (5, 0), chM 6 [c0, [e], c2] [k0, some 1, k2]), (some (6, 0), c0.map (AV.int .i64)), (some (7, 0), [.int .i64 e]), (some (8, 0), c2.map (AV.int .i64))]) [(q + (6 + 3), 1, [.int .i64 1, .bool o])] (b18 f n l i sk w 3 [(13, .ms 5 0 1 0 3 none), (58, .vs (cSs sk)), (59, .int .i64 (cSs sk).length), (60, .int .i64 ((j : Nat) : Int)), (17, .vptr [.int .i64 1, .bool o])]) rfl (.cons (by (repeat (first | rw [za1, if_neg (by omega)] | rw [za1, if_pos rfl] | rw [za7, if_neg (by omega)] | rw [za7, if_pos rfl])); try rfl) rfl .nil) (zff rfl rfl rfl rfl rfl (.cons rfl (.cons (.ms rfl) (.cons (.ms rfl) (.cons (.ms rfl) .nil))) (.cons rfl (.keep (zai _)) (.cons rfl (.keep rfl) (.cons rfl (.keep (zai _)) .nil))))) (zgu rfl rfl rfl rfl rfl rfl rfl rfl rfl rfl rfl rfl rfl rfl rfl rfl rfl (.cons rfl (.ms rfl) (.cons rfl (.same rfl) (.cons rfl (.same rfl) (.cons rfl (.same rfl) (.cons rfl (.fptr (by simp [fzl]) rfl) .nil)))))) ?_
   show Zm _ _ _ _ _ (st _ _ _ (q + (6 + 3)) 1 _) _ _
   obtain ⟨o', ho⟩ : ∃ o', o' = o := ⟨_, rfl⟩
   cases o
   all_goals
    repeat (first | refine za6 ?_ | refine za0 rfl ?_ | refine za3 ?_ | refine za2 ?_ | refine zab ?_ | refine zb0 rfl ?_ | refine zb8 rfl ?_ | refine za4 rfl ?_ | refine za8 rfl rfl ?_ | refine zah rfl rfl rfl ?_)
    refine ze8 env0_ok (fun d => Nat.beq d 76) (fun d => Nat.beq d 73) [] (fun x hx => absurd hx List.not_mem_nil) (fun _ => false) [] (fun x hx => absurd hx List.not_mem_nil) (fun _ => false) rfl rfl rfl ?_
    repeat (first | refine za4 rfl ?_ | refine za8 rfl rfl ?_ | refine zah rfl rfl rfl ?_ | refine zaw rfl rfl (by omega) (by omega) ?_)
    refine o_lo rfl (zfb (sp := 0) rfl rfl (by omega) rfl) ?_
    repeat (first | refine za4 rfl ?_)
    refine zdj rfl rfl rfl rfl rfl ?_
    refine zbz [[.int .i64 _], [.int .i64 _]] rfl rfl rfl (fun h => Nat.noConfusion h) rfl (by decide) rfl (Nat.le_refl 1) (by show 1 + 2 ≤ _; omega) (by show 1 < 1 + 2; omega) ?_
    refine zaw rfl rfl (by decide) (by decide) ?_
    refine zal (sp := 0) rfl rfl rfl rfl rfl rfl rfl ?_
    repeat (first | refine za0 rfl ?_ | refine za3 ?_ | refine za2 ?_ | refine zb6 ?_ | refine za4 rfl ?_ | refine za8 rfl rfl ?_ | refine zal rfl rfl rfl rfl rfl rfl rfl ?_ | refine zah rfl rfl rfl ?_ | refine zay (op := .add) rfl rfl rfl ?_ | refine zaw rfl rfl (by omega) (by omega) ?_)
    rw [zaq j (by omega)]
    exact zat (show sk.length - (j + 1) < sk.length - j by omega) (sq (zan q (6 + 3)) (lvF [e0, o', e2] ((some (5, 0), chM 6 [c0, [e] ++ zhd o', c2] [k0, none, k2]) :: [(some (6, 0), c0.map (AV.int .i64)), (some (q + (6 + 3), 1), ([e] ++ zhd o').map (AV.int .i64)), (some (8, 0), c2.map (AV.int .i64))])) [] rfl rfl rfl rfl .nil (by subst ho; exact (zff rfl rfl rfl rfl rfl (.cons rfl (.cons (.ms rfl) (.cons (.ms rfl) (.cons (.ms rfl) .nil))) (.cons rfl (.keep (zai _)) (.cons (by (repeat (first | rw [za1, if_neg (by omega)] | rw [za1, if_pos rfl] | rw [za7, if_neg (by omega)] | rw [za7, if_pos rfl])); try rfl) (.keep rfl) (.cons rfl (.keep (zai _)) .nil))))))
     (l' := (b18 f n l i sk w 3 [(13, .ms 5 0 1 0 3 none), (58, .vs (cSs sk)), (59, .int .i64 (cSs sk).length), (60, .int .i64 ((j + 1 : Nat) : Int))])) (zgu rfl rfl rfl rfl rfl rfl rfl rfl rfl rfl rfl rfl rfl rfl rfl rfl rfl (.cons rfl (.ms rfl) (.cons rfl (.same rfl) (.cons rfl (.same rfl) (.cons rfl (.same rfl) .nil)))))) (by subst ho; exact ⟨j + 1, _, [k0, none, k2], _, rfl, hlt, ft ([e] ++ zhd _) _, hch, haf, rfl⟩)
  ·have hce : c2 = [e] := hce
   have hks : k2 = some 1 := hks
   subst hce hks
   repeat (first | refine za6 ?_ | refine za0 rfl ?_ | refine za3 ?_ | refine za2 ?_ | refine zad ?_ | refine zab ?_ | refine zb0 rfl ?_ | refine zas rfl rfl rfl rfl ?_ | refine zax ?_ | refine zb1 rfl rfl (by omega) (by assumption) rfl ?_)
   refine zal rfl rfl rfl rfl zaz rfl rfl ?_
   rw [zcj]
   refine za3 (za2 ?_)
   refine zq (zan q (6 + 3)) (lvF [e0, e1, e2] [(some (5, 0), chM 6 [c0, c1, [e]] [k0, k1, some 1]), (some (6, 0), c0.map (AV.int .i64)), (some (7, 0), c1.map (AV.int .i64)), (some (8, 0), [.int .i64 e])]) [(q + (6 + 3), 1, [.int .i64 2, .bool o])] (b18 f n l i sk w 3 [(13, .ms 5 0 1 0 3 none), (58, .vs (cSs sk)), (59, .int .i64 (cSs sk).length), (60, .int .i64 ((j : Nat) : Int)), (17, .vptr [.int .i64 2, .bool o])]) rfl (.cons (by (repeat (first | rw [za1, if_neg (by omega)] | rw [za1, if_pos rfl] | rw [za7, if_neg (by omega)] | rw [za7, if_pos rfl])); try rfl) rfl .nil) (zff rfl rfl rfl rfl rfl (.cons rfl (.cons (.ms rfl) (.cons (.ms rfl) (.cons (.ms rfl) .nil))) (.cons rfl (.keep (zai _)) (.cons rfl (.keep (zai _)) (.cons rfl (.keep rfl) .nil))))) (zgu rfl rfl rfl rfl rfl rfl rfl rfl rfl rfl rfl rfl rfl rfl rfl rfl rfl (.cons rfl (.ms rfl) (.cons rfl (.same rfl) (.cons rfl (.same rfl) (.cons rfl (.same rfl) (.cons rfl (.fptr (by simp [fzl]) rfl) .nil)))))) ?_
   show Zm _ _ _ _ _ (st _ _ _ (q + (6 + 3)) 1 _) _ _
   obtain ⟨o', ho⟩ : ∃ o', o' = o := ⟨_, rfl⟩
   cases o
   all_goals
    repeat (first | refine za6 ?_ | refine za0 rfl ?_ | refine za3 ?_ | refine za2 ?_ | refine zab ?_ | refine zb0 rfl ?_ | refine zb8 rfl ?_ | refine za4 rfl ?_ | refine za8 rfl rfl ?_ | refine zah rfl rfl rfl ?_)
    refine ze8 env0_ok (fun d => Nat.beq d 76) (fun d => Nat.beq d 73) [] (fun x hx => absurd hx List.not_mem_nil) (fun _ => false) [] (fun x hx => absurd hx List.not_mem_nil) (fun _ => false) rfl rfl rfl ?_
    repeat (first | refine za4 rfl ?_ | refine za8 rfl rfl ?_ | refine zah rfl rfl rfl ?_ | refine zaw rfl rfl (by omega) (by omega) ?_)
    refine o_lo rfl (zfb (sp := 0) rfl rfl (by omega) rfl) ?_
    repeat (first | refine za4 rfl ?_)
    refine zdj rfl rfl rfl rfl rfl ?_
    refine zbz [[.int .i64 _], [.int .i64 _]] rfl rfl rfl (fun h => Nat.noConfusion h) rfl (by decide) rfl (Nat.le_refl 1) (by show 1 + 2 ≤ _; omega) (by show 1 < 1 + 2; omega) ?_
    refine zaw rfl rfl (by decide) (by decide) ?_
    refine zal (sp := 0) rfl rfl rfl rfl rfl rfl rfl ?_
    repeat (first | refine za0 rfl ?_ | refine za3 ?_ | refine za2 ?_ | refine zb6 ?_ | refine za4 rfl ?_ | refine za8 rfl rfl ?_ | refine zal rfl rfl rfl rfl rfl rfl rfl ?_ | refine zah rfl rfl rfl ?_ | refine zay (op := .add) rfl rfl rfl ?_ | refine zaw rfl rfl (by omega) (by omega) ?_)
    rw [zaq j (by omega)]
    exact zat (show sk.length - (j + 1) < sk.length - j by omega) (sq (zan q (6 + 3)) (lvF [e0, e1, o'] ((some (5, 0), chM 6 [c0, c1, [e] ++ zhd o'] [k0, k1, none]) :: [(some (6, 0), c0.map (AV.int .i64)), (some (7, 0), c1.map (AV.int .i64)), (some (q + (6 + 3), 1), ([e] ++ zhd o').map (AV.int .i64))])) [] rfl rfl rfl rfl .nil (by subst ho; exact (zff rfl rfl rfl rfl rfl (.cons rfl (.cons (.ms rfl) (.cons (.ms rfl) (.cons (.ms rfl) .nil))) (.cons rfl (.keep (zai _)) (.cons rfl (.keep (zai _)) (.cons (by (repeat (first | rw [za1, if_neg (by omega)] | rw [za1, if_pos rfl] | rw [za7, if_neg (by omega)] | rw [za7, if_pos rfl])); try rfl) (.keep rfl) .nil))))))
     (l' := (b18 f n l i sk w 3 [(13, .ms 5 0 1 0 3 none), (58, .vs (cSs sk)), (59, .int .i64 (cSs sk).length), (60, .int .i64 ((j + 1 : Nat) : Int))])) (zgu rfl rfl rfl rfl rfl rfl rfl rfl rfl rfl rfl rfl rfl rfl rfl rfl rfl (.cons rfl (.ms rfl) (.cons rfl (.same rfl) (.cons rfl (.same rfl) (.cons rfl (.same rfl) .nil)))))) (by subst ho; exact ⟨j + 1, _, [k0, k1, none], _, rfl, hlt, ft ([e] ++ zhd _) _, hch, haf, rfl⟩)
 ·have hj2 : j = sk.length := by
   have : ¬ ((j : Nat) : Int) < ((cSs sk).length : Nat) := of_decide_eq_false h3
   rw [hcs] at this
   omega
  subst hj2
  rw [List.drop_length] at hch haf
  repeat (first | refine za6 ?_ | refine za3 ?_ | refine za2 ?_ | refine zb8 rfl ?_ | refine zbb ?_ | refine zaj ?_)
  refine zcl (zba (za2 ?_))
  have := fin [k0, k1, k2] [e0, e1, e2] rfl haf.symm
  rw [hch] at this
  exact zen (zao (.cons rfl (.cons rfl (.cons rfl (.cons rfl (.cons rfl (.cons rfl (.cons rfl (.cons rfl (.cons rfl (.cons rfl (.cons rfl (.cons rfl (.cons rfl .nil)))))))))))))) this
theorem len4 {α : Type} {x : List α} (h : x.length = 4) : ∃ a0 a1 a2 a3, x = [a0, a1, a2, a3] := by
 match x, h with
 | [a0, a1, a2, a3], _ => exact ⟨a0, a1, a2, a3, rfl⟩
set_option maxHeartbeats 8000000 in
theorem loopB4 (f : List Ex) (n : Int) (l : List Sp) (i : Nat) (sk : List Sk) (hsk : sk.length ≤ 6) (w : Int) (C0 : List (List Int)) (k0 : List (Option Nat)) (E0 : List Bool) (q : Nat) {y : IC} (ok : Fit18 4 C0 k0 E0 sk)
  (fin : ∀ ks E2, ks.length = 4 → E2 = aft E0 sk → Zm Try.prog w0 N0 none y (st 97 (b18 f n l i sk w 4 [(13, .ms 5 0 1 0 4 none)]) (zc9 0 (zj8 E2 (chS C0 sk) ks) ++ zcc (6 + 4) q) (q + (6 + 4)) 1 (ze5 (6 + 4) q)) k Q) :
  Zm Try.prog w0 N0 none (.loop zl0) (st 97 (b18 f n l i sk w 4 [(13, .ms 5 0 1 0 4 none), (58, .vs (cSs sk)), (59, .int .i64 (cSs sk).length), (60, .int .i64 ((0 : Nat) : Int))]) (zc9 0 (zj8 E0 C0 k0) ++ zcc (6 + 4) q) (q + (6 + 4)) 1 (ze5 (6 + 4) q)) (.blk 4 :: .seq y :: k) Q := by
 have hcs : (cSs sk).length = sk.length := zc7 sk
 refine zbq (fun mm S => ∃ j C ks E, mm = sk.length - j ∧ j ≤ sk.length ∧ Fit18 4 C ks E (sk.drop j) ∧ chS C0 sk = chS C (sk.drop j) ∧ aft E0 sk = aft E (sk.drop j) ∧ S = st 97 (b18 f n l i sk w 4 [(13, .ms 5 0 1 0 4 none), (58, .vs (cSs sk)), (59, .int .i64 (cSs sk).length), (60, .int .i64 ((j : Nat) : Int))]) (zc9 0 (zj8 E C ks) ++ zcc (6 + 4) q) (q + (6 + 4)) 1 (ze5 (6 + 4) q)) sk.length
  (zao (.cons rfl (.cons rfl (.cons rfl (.cons rfl (.cons rfl (.cons rfl (.cons rfl (.cons rfl (.cons rfl (.cons rfl (.cons rfl (.cons rfl (.cons rfl (.cons rfl (.cons rfl (.cons rfl .nil))))))))))))))))) ⟨0, C0, k0, E0, rfl, Nat.zero_le _, ok, rfl, rfl, rfl⟩ ?_
 rintro mm S ⟨j, C, ks, E, rfl, hj, fit, hch, haf, rfl⟩
 obtain ⟨c0, c1, c2, c3, rfl⟩ := len4 fit.hC
 obtain ⟨k0, k1, k2, k3, rfl⟩ := len4 fit.hk
 obtain ⟨e0, e1, e2, e3, rfl⟩ := len4 fit.hE
 unfold zl0
 repeat (first | refine za6 ?_ | refine za0 rfl ?_)
 refine zar rfl rfl rfl (fun h3 => ?_) fun h3 => ?_
 ·have hlt : j < sk.length := by
   have : ((j : Nat) : Int) < ((cSs sk).length : Nat) := of_decide_eq_true h3
   rw [hcs] at this
   omega
  rw [List.drop_eq_getElem_cons hlt] at fit hch haf
  have hg := zdm hlt
  generalize sk[j] = s at fit hch haf hg
  obtain ⟨a0, a1, ⟨e, hce⟩, hks⟩ := fit.at' s (List.mem_cons_self ..)
  have ft := fun c o => fit.tail c o
  clear fit
  obtain ⟨a, o⟩ := s
  have a0 : 0 ≤ a := a0
  have a1 : a < 4 := a1
  have hg : (cSs sk)[((j : Nat) : Int).toNat]? = some [.int .i64 a, .bool o] := hg
  rcases (show a = 0 ∨ a = 1 ∨ a = 2 ∨ a = 3 by omega) with rfl | rfl | rfl | rfl
  ·have hce : c0 = [e] := hce
   have hks : k0 = some 1 := hks
   subst hce hks
   repeat (first | refine za6 ?_ | refine za0 rfl ?_ | refine za3 ?_ | refine za2 ?_ | refine zad ?_ | refine zab ?_ | refine zb0 rfl ?_ | refine zas rfl rfl rfl rfl ?_ | refine zax ?_ | refine zb1 rfl rfl (by omega) (by assumption) rfl ?_)
   refine zal rfl rfl rfl rfl zaz rfl rfl ?_
   rw [zcj]
   refine za3 (za2 ?_)
   refine zq (zan q (6 + 4)) (lvF [e0, e1, e2, e3] [(some (5, 0), chM 6 [[e], c1, c2, c3] [some 1, k1, k2, k3]), (some (6, 0), [.int .i64 e]), (some (7, 0), c1.map (AV.int .i64)), (some (8, 0), c2.map (AV.int .i64)), (some (9, 0), c3.map (AV.int .i64))]) [(q + (6 + 4), 1, [.int .i64 0, .bool o])] (b18 f n l i sk w 4 [(13, .ms 5 0 1 0 4 none), (58, .vs (cSs sk)), (59, .int .i64 (cSs sk).length), (60, .int .i64 ((j : Nat) : Int)), (17, .vptr [.int .i64 0, .bool o])]) rfl (.cons (by (repeat (first | rw [za1, if_neg (by omega)] | rw [za1, if_pos rfl] | rw [za7, if_neg (by omega)] | rw [za7, if_pos rfl])); try rfl) rfl .nil) (zff rfl rfl rfl rfl rfl (.cons rfl (.cons (.ms rfl) (.cons (.ms rfl) (.cons (.ms rfl) (.cons (.ms rfl) .nil)))) (.cons rfl (.keep rfl) (.cons rfl (.keep (zai _)) (.cons rfl (.keep (zai _)) (.cons rfl (.keep (zai _)) .nil)))))) (zgu rfl rfl rfl rfl rfl rfl rfl rfl rfl rfl rfl rfl rfl rfl rfl rfl rfl (.cons rfl (.ms rfl) (.cons rfl (.same rfl) (.cons rfl (.same rfl) (.cons rfl (.same rfl) (.cons rfl (.fptr (by simp [fzl]) rfl) .nil)))))) ?_
   show Zm _ _ _ _ _ (st _ _ _ (q + (6 + 4)) 1 _) _ _
   obtain ⟨o', ho⟩ : ∃ o', o' = o := ⟨_, rfl⟩
   cases o
   all_goals
    repeat (first | refine za6 ?_ | refine za0 rfl ?_ | refine za3 ?_ | refine za2 ?_ | refine zab ?_ | refine zb0 rfl ?_ | refine zb8 rfl ?_ | refine za4 rfl ?_ | refine za8 rfl rfl ?_ | refine zah rfl rfl rfl ?_)
    refine ze8 env0_ok (fun d => Nat.beq d 76) (fun d => Nat.beq d 73) [] (fun x hx => absurd hx List.not_mem_nil) (fun _ => false) [] (fun x hx => absurd hx List.not_mem_nil) (fun _ => false) rfl rfl rfl ?_
    repeat (first | refine za4 rfl ?_ | refine za8 rfl rfl ?_ | refine zah rfl rfl rfl ?_ | refine zaw rfl rfl (by omega) (by omega) ?_)
    refine o_lo rfl (zfb (sp := 0) rfl rfl (by omega) rfl) ?_
    repeat (first | refine za4 rfl ?_)
    refine zdj rfl rfl rfl rfl rfl ?_
    refine zbz [[.int .i64 _], [.int .i64 _]] rfl rfl rfl (fun h => Nat.noConfusion h) rfl (by decide) rfl (Nat.le_refl 1) (by show 1 + 2 ≤ _; omega) (by show 1 < 1 + 2; omega) ?_
    refine zaw rfl rfl (by decide) (by decide) ?_
    refine zal (sp := 0) rfl rfl rfl rfl rfl rfl rfl ?_
    repeat (first | refine za0 rfl ?_ | refine za3 ?_ | refine za2 ?_ | refine zb6 ?_ | refine za4 rfl ?_ | refine za8 rfl rfl ?_ | refine zal rfl rfl rfl rfl rfl rfl rfl ?_ | refine zah rfl rfl rfl ?_ | refine zay (op := .add) rfl rfl rfl ?_ | refine zaw rfl rfl (by omega) (by omega) ?_)
    rw [zaq j (by omega)]
    exact zat (show sk.length - (j + 1) < sk.length - j by omega) (sq (zan q (6 + 4)) (lvF [o', e1, e2, e3] ((some (5, 0), chM 6 [[e] ++ zhd o', c1, c2, c3] [none, k1, k2, k3]) :: [(some (q + (6 + 4), 1), ([e] ++ zhd o').map (AV.int .i64)), (some (7, 0), c1.map (AV.int .i64)), (some (8, 0), c2.map (AV.int .i64)), (some (9, 0), c3.map (AV.int .i64))])) [] rfl rfl rfl rfl .nil (by subst ho; exact (zff rfl rfl rfl rfl rfl (.cons rfl (.cons (.ms rfl) (.cons (.ms rfl) (.cons (.ms rfl) (.cons (.ms rfl) .nil)))) (.cons (by (repeat (first | rw [za1, if_neg (by omega)] | rw [za1, if_pos rfl] | rw [za7, if_neg (by omega)] | rw [za7, if_pos rfl])); try rfl) (.keep rfl) (.cons rfl (.keep (zai _)) (.cons rfl (.keep (zai _)) (.cons rfl (.keep (zai _)) .nil)))))))
     (l' := (b18 f n l i sk w 4 [(13, .ms 5 0 1 0 4 none), (58, .vs (cSs sk)), (59, .int .i64 (cSs sk).length), (60, .int .i64 ((j + 1 : Nat) : Int))])) (zgu rfl rfl rfl rfl rfl rfl rfl rfl rfl rfl rfl rfl rfl rfl rfl rfl rfl (.cons rfl (.ms rfl) (.cons rfl (.same rfl) (.cons rfl (.same rfl) (.cons rfl (.same rfl) .nil)))))) (by subst ho; exact ⟨j + 1, _, [none, k1, k2, k3], _, rfl, hlt, ft ([e] ++ zhd _) _, hch, haf, rfl⟩)
  ·have hce : c1 = [e] := hce
   have hks : k1 = some 1 := hks
   subst hce hks
   repeat (first | refine za6 ?_ | refine za0 rfl ?_ | refine za3 ?_ | refine za2 ?_ | refine zad ?_ | refine zab ?_ | refine zb0 rfl ?_ | refine zas rfl rfl rfl rfl ?_ | refine zax ?_ | refine zb1 rfl rfl (by omega) (by assumption) rfl ?_)
   refine zal rfl rfl rfl rfl zaz rfl rfl ?_
   rw [zcj]
   refine za3 (za2 ?_)
   refine zq (zan q (6 + 4)) (lvF [e0, e1, e2, e3] [(some (5, 0), chM 6 [c0, [e], c2, c3] [k0, some 1, k2, k3]), (some (6, 0), c0.map (AV.int .i64)), (some (7, 0), [.int .i64 e]), (some (8, 0), c2.map (AV.int .i64)), (some (9, 0), c3.map (AV.int .i64))]) [(q + (6 + 4), 1, [.int .i64 1, .bool o])] (b18 f n l i sk w 4 [(13, .ms 5 0 1 0 4 none), (58, .vs (cSs sk)), (59, .int .i64 (cSs sk).length), (60, .int .i64 ((j : Nat) : Int)), (17, .vptr [.int .i64 1, .bool o])]) rfl (.cons (by (repeat (first | rw [za1, if_neg (by omega)] | rw [za1, if_pos rfl] | rw [za7, if_neg (by omega)] | rw [za7, if_pos rfl])); try rfl) rfl .nil) (zff rfl rfl rfl rfl rfl (.cons rfl (.cons (.ms rfl) (.cons (.ms rfl) (.cons (.ms rfl) (.cons (.ms rfl) .nil)))) (.cons rfl (.keep (zai _)) (.cons rfl (.keep rfl) (.cons rfl (.keep (zai _)) (.cons rfl (.keep (zai _)) .nil)))))) (zgu rfl rfl rfl rfl rfl rfl rfl rfl rfl rfl rfl rfl rfl rfl rfl rfl rfl (.cons rfl (.ms rfl) (.cons rfl (.same rfl) (.cons rfl (.same rfl) (.cons rfl (.same rfl) (.cons rfl (.fptr (by simp [fzl]) rfl) .nil)))))) ?_
   show Zm _ _ _ _ _ (st _ _ _ (q + (6 + 4)) 1 _) _ _
   obtain ⟨o', ho⟩ : ∃ o', o' = o := ⟨_, rfl⟩
   cases o
   all_goals
    repeat (first | refine za6 ?_ | refine za0 rfl ?_ | refine za3 ?_ | refine za2 ?_ | refine zab ?_ | refine zb0 rfl ?_ | refine zb8 rfl ?_ | refine za4 rfl ?_ | refine za8 rfl rfl ?_ | refine zah rfl rfl rfl ?_)
    refine ze8 env0_ok (fun d => Nat.beq d 76) (fun d => Nat.beq d 73) [] (fun x hx => absurd hx List.not_mem_nil) (fun _ => false) [] (fun x hx => absurd hx List.not_mem_nil) (fun _ => false) rfl rfl rfl ?_
    repeat (first | refine za4 rfl ?_ | refine za8 rfl rfl ?_ | refine zah rfl rfl rfl ?_ | refine zaw rfl rfl (by omega) (by omega) ?_)
    refine o_lo rfl (zfb (sp := 0) rfl rfl (by omega) rfl) ?_
    repeat (first | refine za4 rfl ?_)
    refine zdj rfl rfl rfl rfl rfl ?_
    refine zbz [[.int .i64 _], [.int .i64 _]] rfl rfl rfl (fun h => Nat.noConfusion h) rfl (by decide) rfl (Nat.le_refl 1) (by show 1 + 2 ≤ _; omega) (by show 1 < 1 + 2; omega) ?_
    refine zaw rfl rfl (by decide) (by decide) ?_
    refine zal (sp := 0) rfl rfl rfl rfl rfl rfl rfl ?_
    repeat (first | refine za0 rfl ?_ | refine za3 ?_ | refine za2 ?_ | refine zb6 ?_ | refine za4 rfl ?_ | refine za8 rfl rfl ?_ | refine zal rfl rfl rfl rfl rfl rfl rfl ?_ | refine zah rfl rfl rfl ?_ | refine zay (op := .add) rfl rfl rfl ?_ | refine zaw rfl rfl (by omega) (by omega) ?_)
    rw [zaq j (by omega)]
    exact zat (show sk.length - (j + 1) < sk.length - j by omega) (sq (zan q (6 + 4)) (lvF [e0, o', e2, e3] ((some (5, 0), chM 6 [c0, [e] ++ zhd o', c2, c3] [k0, none, k2, k3]) :: [(some (6, 0), c0.map (AV.int .i64)), (some (q + (6 + 4), 1), ([e] ++ zhd o').map (AV.int .i64)), (some (8, 0), c2.map (AV.int .i64)), (some (9, 0), c3.map (AV.int .i64))])) [] rfl rfl rfl rfl .nil (by subst ho; exact (zff rfl rfl rfl rfl rfl (.cons rfl (.cons (.ms rfl) (.cons (.ms rfl) (.cons (.ms rfl) (.cons (.ms rfl) .nil)))) (.cons rfl (.keep (zai _)) (.cons (by (repeat (first | rw [za1, if_neg (by omega)] | rw [za1, if_pos rfl] | rw [za7, if_neg (by omega)] | rw [za7, if_pos rfl])); try rfl) (.keep rfl) (.cons rfl (.keep (zai _)) (.cons rfl (.keep (zai _)) .nil)))))))
     (l' := (b18 f n l i sk w 4 [(13, .ms 5 0 1 0 4 none), (58, .vs (cSs sk)), (59, .int .i64 (cSs sk).length), (60, .int .i64 ((j + 1 : Nat) : Int))])) (zgu rfl rfl rfl rfl rfl rfl rfl rfl rfl rfl rfl rfl rfl rfl rfl rfl rfl (.cons rfl (.ms rfl) (.cons rfl (.same rfl) (.cons rfl (.same rfl) (.cons rfl (.same rfl) .nil)))))) (by subst ho; exact ⟨j + 1, _, [k0, none, k2, k3], _, rfl, hlt, ft ([e] ++ zhd _) _, hch, haf, rfl⟩)
  ·have hce : c2 = [e] := hce
   have hks : k2 = some 1 := hks
   subst hce hks
   repeat (first | refine za6 ?_ | refine za0 rfl ?_ | refine za3 ?_ | refine za2 ?_ | refine zad ?_ | refine zab ?_ | refine zb0 rfl ?_ | refine zas rfl rfl rfl rfl ?_ | refine zax ?_ | refine zb1 rfl rfl (by omega) (by assumption) rfl ?_)
   refine zal rfl rfl rfl rfl zaz rfl rfl ?_
   rw [zcj]
   refine za3 (za2 ?_)
   refine zq (zan q (6 + 4)) (lvF [e0, e1, e2, e3] [(some (5, 0), chM 6 [c0, c1, [e], c3] [k0, k1, some 1, k3]), (some (6, 0), c0.map (AV.int .i64)), (some (7, 0), c1.map (AV.int .i64)), (some (8, 0), [.int .i64 e]), (some (9, 0), c3.map (AV.int .i64))]) [(q + (6 + 4), 1, [.int .i64 2, .bool o])] (b18 f n l i sk w 4 [(13, .ms 5 0 1 0 4 none), (58, .vs (cSs sk)), (59, .int .i64 (cSs sk).length), (60, .int .i64 ((j : Nat) : Int)), (17, .vptr [.int .i64 2, .bool o])]) rfl (.cons (by (repeat (first | rw [za1, if_neg (by omega)] | rw [za1, if_pos rfl] | rw [za7, if_neg (by omega)] | rw [za7, if_pos rfl])); try rfl) rfl .nil) (zff rfl rfl rfl rfl rfl (.cons rfl (.cons (.ms rfl) (.cons (.ms rfl) (.cons (.ms rfl) (.cons (.ms rfl) .nil)))) (.cons rfl (.keep (zai _)) (.cons rfl (.keep (zai _)) (.cons rfl (.keep rfl) (.cons rfl (.keep (zai _)) .nil)))))) (zgu rfl rfl rfl rfl rfl rfl rfl rfl rfl rfl rfl rfl rfl rfl rfl rfl rfl (.cons rfl (.ms rfl) (.cons rfl (.same rfl) (.cons rfl (.same rfl) (.cons rfl (.same rfl) (.cons rfl (.fptr (by simp [fzl]) rfl) .nil)))))) ?_
   show Zm _ _ _ _ _ (st _ _ _ (q + (6 + 4)) 1 _) _ _
   obtain ⟨o', ho⟩ : ∃ o', o' = o := ⟨_, rfl⟩
   cases o
   all_goals
    repeat (first | refine za6 ?_ | refine za0 rfl ?_ | refine za3 ?_ | refine za2 ?_ | refine zab ?_ | refine zb0 rfl ?_ | refine zb8 rfl ?_ | refine za4 rfl ?_ | refine za8 rfl rfl ?_ | refine zah rfl rfl rfl ?_)
    refine ze8 env0_ok (fun d => Nat.beq d 76) (fun d => Nat.beq d 73) [] (fun x hx => absurd hx List.not_mem_nil) (fun _ => false) [] (fun x hx => absurd hx List.not_mem_nil) (fun _ => false) rfl rfl rfl ?_
    repeat (first | refine za4 rfl ?_ | refine za8 rfl rfl ?_ | refine zah rfl rfl rfl ?_ | refine zaw rfl rfl (by omega) (by omega) ?_)
    refine o_lo rfl (zfb (sp := 0) rfl rfl (by omega) rfl) ?_
    repeat (first | refine za4 rfl ?_)
    refine zdj rfl rfl rfl rfl rfl ?_
    refine zbz [[.int .i64 _], [.int .i64 _]] rfl rfl rfl (fun h => Nat.noConfusion h) rfl (by decide) rfl (Nat.le_refl 1) (by show 1 + 2 ≤ _; omega) (by show 1 < 1 + 2; omega) ?_
    refine zaw rfl rfl (by decide) (by decide) ?_
    refine zal (sp := 0) rfl rfl rfl rfl rfl rfl rfl ?_
    repeat (first | refine za0 rfl ?_ | refine za3 ?_ | refine za2 ?_ | refine zb6 ?_ | refine za4 rfl ?_ | refine za8 rfl rfl ?_ | refine zal rfl rfl rfl rfl rfl rfl rfl ?_ | refine zah rfl rfl rfl ?_ | refine zay (op := .add) rfl rfl rfl ?_ | refine zaw rfl rfl (by omega) (by omega) ?_)
    rw [zaq j (by omega)]
    exact zat (show sk.length - (j + 1) < sk.length - j by omega) (sq (zan q (6 + 4)) (lvF [e0, e1, o', e3] ((some (5, 0), chM 6 [c0, c1, [e] ++ zhd o', c3] [k0, k1, none, k3]) :: [(some (6, 0), c0.map (AV.int .i64)), (some (7, 0), c1.map (AV.int .i64)), (some (q + (6 + 4), 1), ([e] ++ zhd o').map (AV.int .i64)), (some (9, 0), c3.map (AV.int .i64))])) [] rfl rfl rfl rfl .nil (by subst ho; exact (zff rfl rfl rfl rfl rfl (.cons rfl (.cons (.ms rfl) (.cons (.ms rfl) (.cons (.ms rfl) (.cons (.ms rfl) .nil)))) (.cons rfl (.keep (zai _)) (.cons rfl (.keep (zai _)) (.cons (by (repeat (first | rw [za1, if_neg (by omega)] | rw [za1, if_pos rfl] | rw [za7, if_neg (by omega)] | rw [za7, if_pos rfl])); try rfl) (.keep rfl) (.cons rfl (.keep (zai _)) .nil)))))))
     (l' := (b18 f n l i sk w 4 [(13, .ms 5 0 1 0 4 none), (58, .vs (cSs sk)), (59, .int .i64 (cSs sk).length), (60, .int .i64 ((j + 1 : Nat) : Int))])) (zgu rfl rfl rfl rfl rfl rfl rfl rfl rfl rfl rfl rfl rfl rfl rfl rfl rfl (.cons rfl (.ms rfl) (.cons rfl (.same rfl) (.cons rfl (.same rfl) (.cons rfl (.same rfl) .nil)))))) (by subst ho; exact ⟨j + 1, _, [k0, k1, none, k3], _, rfl, hlt, ft ([e] ++ zhd _) _, hch, haf, rfl⟩)
  ·have hce : c3 = [e] := hce
   have hks : k3 = some 1 := hks
   subst hce hks
   repeat (first | refine za6 ?_ | refine za0 rfl ?_ | refine za3 ?_ | refine za2 ?_ | refine zad ?_ | refine zab ?_ | refine zb0 rfl ?_ | refine zas rfl rfl rfl rfl ?_ | refine zax ?_ | refine zb1 rfl rfl (by omega) (by assumption) rfl ?_)
   refine zal rfl rfl rfl rfl zaz rfl rfl ?_
   rw [zcj]
   refine za3 (za2 ?_)
   refine zq (zan q (6 + 4)) (lvF [e0, e1, e2, e3] [(some (5, 0), chM 6 [c0, c1, c2, [e]] [k0, k1, k2, some 1]), (some (6, 0), c0.map (AV.int .i64)), (some (7, 0), c1.map (AV.int .i64)), (some (8, 0), c2.map (AV.int .i64)), (some (9, 0), [.int .i64 e])]) [(q + (6 + 4), 1, [.int .i64 3, .bool o])] (b18 f n l i sk w 4 [(13, .ms 5 0 1 0 4 none), (58, .vs (cSs sk)), (59, .int .i64 (cSs sk).length), (60, .int .i64 ((j : Nat) : Int)), (17, .vptr [.int .i64 3, .bool o])]) rfl (.cons (by (repeat (first | rw [za1, if_neg (by omega)] | rw [za1, if_pos rfl] | rw [za7, if_neg (by omega)] | rw [za7, if_pos rfl])); try rfl) rfl .nil) (zff rfl rfl rfl rfl rfl (.cons rfl (.cons (.ms rfl) (.cons (.ms rfl) (.cons (.ms rfl) (.cons (.ms rfl) .nil)))) (.cons rfl (.keep (zai _)) (.cons rfl (.keep (zai _)) (.cons rfl (.keep (zai _)) (.cons rfl (.keep rfl) .nil)))))) (zgu rfl rfl rfl rfl rfl rfl rfl rfl rfl rfl rfl rfl rfl rfl rfl rfl rfl (.cons rfl (.ms rfl) (.cons rfl (.same rfl) (.cons rfl (.same rfl) (.cons rfl (.same rfl) (.cons rfl (.fptr (by simp [fzl]) rfl) .nil)))))) ?_
   show Zm _ _ _ _ _ (st _ _ _ (q + (6 + 4)) 1 _) _ _
   obtain ⟨o', ho⟩ : ∃ o', o' = o := ⟨_, rfl⟩
   cases o
   all_goals
    repeat (first | refine za6 ?_ | refine za0 rfl ?_ | refine za3 ?_ | refine za2 ?_ | refine zab ?_ | refine zb0 rfl ?_ | refine zb8 rfl ?_ | refine za4 rfl ?_ | refine za8 rfl rfl ?_ | refine zah rfl rfl rfl ?_)
    refine ze8 env0_ok (fun d => Nat.beq d 76) (fun d => Nat.beq d 73) [] (fun x hx => absurd hx List.not_mem_nil) (fun _ => false) [] (fun x hx => absurd hx List.not_mem_nil) (fun _ => false) rfl rfl rfl ?_
    repeat (first | refine za4 rfl ?_ | refine za8 rfl rfl ?_ | refine zah rfl rfl rfl ?_ | refine zaw rfl rfl (by omega) (by omega) ?_)
    refine o_lo rfl (zfb (sp := 0) rfl rfl (by omega) rfl) ?_
    repeat (first | refine za4 rfl ?_)
    refine zdj rfl rfl rfl rfl rfl ?_
    refine zbz [[.int .i64 _], [.int .i64 _]] rfl rfl rfl (fun h => Nat.noConfusion h) rfl (by decide) rfl (Nat.le_refl 1) (by show 1 + 2 ≤ _; omega) (by show 1 < 1 + 2; omega) ?_
    refine zaw rfl rfl (by decide) (by decide) ?_
    refine zal (sp := 0) rfl rfl rfl rfl rfl rfl rfl ?_
    repeat (first | refine za0 rfl ?_ | refine za3 ?_ | refine za2 ?_ | refine zb6 ?_ | refine za4 rfl ?_ | refine za8 rfl rfl ?_ | refine zal rfl rfl rfl rfl rfl rfl rfl ?_ | refine zah rfl rfl rfl ?_ | refine zay (op := .add) rfl rfl rfl ?_ | refine zaw rfl rfl (by omega) (by omega) ?_)
    rw [zaq j (by omega)]
    exact zat (show sk.length - (j + 1) < sk.length - j by omega) (sq (zan q (6 + 4)) (lvF [e0, e1, e2, o'] ((some (5, 0), chM 6 [c0, c1, c2, [e] ++ zhd o'] [k0, k1, k2, none]) :: [(some (6, 0), c0.map (AV.int .i64)), (some (7, 0), c1.map (AV.int .i64)), (some (8, 0), c2.map (AV.int .i64)), (some (q + (6 + 4), 1), ([e] ++ zhd o').map (AV.int .i64))])) [] rfl rfl rfl rfl .nil (by subst ho; exact (zff rfl rfl rfl rfl rfl (.cons rfl (.cons (.ms rfl) (.cons (.ms rfl) (.cons (.ms rfl) (.cons (.ms rfl) .nil)))) (.cons rfl (.keep (zai _)) (.cons rfl (.keep (zai _)) (.cons rfl (.keep (zai _)) (.cons (by (repeat (first | rw [za1, if_neg (by omega)] | rw [za1, if_pos rfl] | rw [za7, if_neg (by omega)] | rw [za7, if_pos rfl])); try rfl) (.keep rfl) .nil)))))))
     (l' := (b18 f n l i sk w 4 [(13, .ms 5 0 1 0 4 none), (58, .vs (cSs sk)), (59, .int .i64 (cSs sk).length), (60, .int .i64 ((j + 1 : Nat) : Int))])) (zgu rfl rfl rfl rfl rfl rfl rfl rfl rfl rfl rfl rfl rfl rfl rfl rfl rfl (.cons rfl (.ms rfl) (.cons rfl (.same rfl) (.cons rfl (.same rfl) (.cons rfl (.same rfl) .nil)))))) (by subst ho; exact ⟨j + 1, _, [k0, k1, k2, none], _, rfl, hlt, ft ([e] ++ zhd _) _, hch, haf, rfl⟩)
 ·have hj2 : j = sk.length := by
   have : ¬ ((j : Nat) : Int) < ((cSs sk).length : Nat) := of_decide_eq_false h3
   rw [hcs] at this
   omega
  subst hj2
  rw [List.drop_length] at hch haf
  repeat (first | refine za6 ?_ | refine za3 ?_ | refine za2 ?_ | refine zb8 rfl ?_ | refine zbb ?_ | refine zaj ?_)
  refine zcl (zba (za2 ?_))
  have := fin [k0, k1, k2, k3] [e0, e1, e2, e3] rfl haf.symm
  rw [hch] at this
  exact zen (zao (.cons rfl (.cons rfl (.cons rfl (.cons rfl (.cons rfl (.cons rfl (.cons rfl (.cons rfl (.cons rfl (.cons rfl (.cons rfl (.cons rfl (.cons rfl .nil)))))))))))))) this
end
end Go.Proofs.Ytoiblgbaeglgoaa
