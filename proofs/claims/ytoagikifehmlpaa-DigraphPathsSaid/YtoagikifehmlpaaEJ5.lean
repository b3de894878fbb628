/-
  REVERSED GRAPHS: the reference's Reverse.
-/
import Derived.Test.YtoagikifehmlpaaEJ4
namespace Go.Proofs.Ytoagikifehmlpaa
open Go Go.Am
def b30_0 : IC := .seq (.seq (.region [⟨(some 16), .mov (.t 6), none⟩,
  ⟨(some 17), .faddr 1 (.t 1), none⟩,
  ⟨(some 18), .load none (.t 17), none⟩,
  ⟨(some 19), .len false (.t 18), none⟩,
  ⟨(some 20), .bin .lss (.t 16) (.t 19), none⟩] none)
 (.cond (.t 20) (.skip)
 (.exit 0)))
 (.seq (.block 1 (.region [⟨(some 23), .faddr 1 (.t 5), none⟩,
  ⟨(some 24), .load none (.t 23), none⟩,
  ⟨(some 25), .faddr 1 (.t 1), none⟩,
  ⟨(some 26), .load none (.t 25), none⟩,
  ⟨(some 27), .mov (.t 6), none⟩,
  ⟨(some 28), .idxs 2 (.t 26) (.t 27), none⟩,
  ⟨(some 29), .faddr 1 (.t 28), none⟩,
  ⟨(some 30), .load none (.t 29), none⟩,
  ⟨(some 31), .faddr 1 (.t 1), none⟩,
  ⟨(some 32), .load none (.t 31), none⟩,
  ⟨(some 33), .mov (.t 6), none⟩,
  ⟨(some 34), .idxs 2 (.t 32) (.t 33), none⟩,
  ⟨(some 35), .faddr 0 (.t 34), none⟩,
  ⟨(some 36), .load none (.t 35), none⟩,
  ⟨(some 37), .build [.int .i64 0, .int .i64 0] [(0, 1, (.t 30)), (1, 1, (.t 36))], none⟩,
  ⟨(some 38), .bslice 2 1 [.int .i64 0, .int .i64 0] [(0, 2, (.t 37))], none⟩,
  ⟨(some 39), .append 2 16 [.int .i64 0, .int .i64 0] (.t 24) (.t 38), none⟩,
  ⟨(some 40), .faddr 1 (.t 5), none⟩,
  ⟨none, .store 1 (.t 40) (.t 39), none⟩] (some [[], [0], [], [2], [], [3, 4], [5], [6], [], [8], [], [9, 10], [11], [12], [7, 13], [14], [1, 15], [0, 1, 2, 3, 4, 5, 6, 7, 8, 9, 10, 11, 12, 13, 14, 15, 16], [17, 16, 16, 0, 1, 2, 3, 4, 5, 6, 7, 8, 9, 10, 11, 12, 13, 14, 15, 16]])))
 (.region [⟨(some 21), .mov (.t 6), none⟩,
  ⟨(some 22), .bin .add (.t 21) (.c (.int .i64 1)), none⟩,
  ⟨(some 6), .mov (.t 22), none⟩] none))
-- pneumatic/pneumaticref10.Reverse
def ic30 : IC := .seq (.region [⟨(some 1), .box (.t 0), none⟩,
  ⟨(some 2), .alloc [.int .i64 0, .nils], none⟩,
  ⟨(some 3), .mov (.c (.int .i64 0)), none⟩] none)
 (.seq (.seq (.region [⟨(some 7), .load (some 2) (.t 1), none⟩,
  ⟨(some 8), .call (.c (.fn 35 [] [])) [(.t 7)], none⟩,
  ⟨(some 4), .mov (.t 8), none⟩] none)
 (.seq (.region [⟨(some 9), .mov (.t 4), none⟩,
  ⟨(some 10), .bin .neq (.t 9) (.c (.int .i64 0)), none⟩] none)
 (.cond (.t 10) (.seq (.region [⟨(some 11), .build [.int .i64 0, .nils] [], none⟩,
  ⟨(some 12), .mov (.t 4), none⟩,
  ⟨none, .store 2 (.t 2) (.t 11), none⟩,
  ⟨(some 3), .mov (.t 12), none⟩] none)
 (.ret))
 (.skip))))
 (.seq (.region [⟨(some 13), .faddr 0 (.t 1), none⟩,
  ⟨(some 14), .load none (.t 13), none⟩,
  ⟨(some 15), .build [.int .i64 0, .nils] [(0, 1, (.t 14))], none⟩,
  ⟨(some 5), .alloc [.int .i64 0, .nils], none⟩,
  ⟨none, .store 2 (.t 5) (.t 15), none⟩] none)
 (.seq (.seq (.region [⟨(some 6), .mov (.c (.int .i64 0)), none⟩] none)
 (.block 0 (.loop b30_0)))
 (.seq (.region [⟨(some 41), .load (some 2) (.t 5), none⟩,
  ⟨none, .store 2 (.t 2) (.t 41), none⟩,
  ⟨(some 3), .mov (.c (.int .i64 0)), none⟩] none)
 (.ret)))))
theorem fn30 : env0.fn 30 = some ⟨42, ic30, [.cell 2 (some 2), .t 3]⟩ := by kernel_rfl
set_option maxHeartbeats 4000000 in
theorem zs4 (n : Int) (es : List (Int × Int)) : PF Try.prog 30 [cG n es] (revV n es) := by
 have p35 := zq5 n es
 have hcl := zbv es
 refine zb1 env0_ok fn30 [(0, .agg [.int .i64 n, .vs (cE es)])] (by show 1 ≤ 42; decide) rfl fun w0 N0 => ?_
 unfold ic30 revV
 refine za7 (za0 rfl (zdf rfl rfl (zcp (za3 rfl (za5 (za4 ?_))))))
 refine zbm [(some (1, 1), [.int .i64 0, .nils])] [(0, 0, [.int .i64 n, .vs (cE es)])] [(1, .vptr [.int .i64 n, .vs (cE es)]), (2, .mptr 0 0 0), (3, .int .i64 0)] rfl (.cons rfl rfl .nil) (.cons rfl (.cons (.same rfl) (.cons (.same rfl) .nil)) .nil) (.cons rfl (.fptr rfl rfl) (.cons rfl (.mptr rfl) (.cons rfl (.same rfl) .nil))) ?_
 repeat (first | refine za7 ?_ | refine za0 rfl ?_ | refine zan rfl rfl rfl rfl ?_)
 refine zax rfl rfl p35 (fun h => Bool.noConfusion (show false = true from h)) ?_
 repeat (first | refine za7 ?_ | refine za0 rfl ?_ | refine za5 ?_ | refine za4 ?_ | refine za3 rfl ?_)
 refine zav rfl rfl rfl (fun h => ?_) fun h => ?_
 ·have h : ¬ zes n es = 0 := by simpa using h
  rw [if_neg h]
  repeat (first | refine za7 ?_ | refine za0 rfl ?_ | refine za5 ?_ | refine za4 ?_ | refine zd3 rfl ?_ | refine zar ?_ | refine zah ?_ | refine za3 rfl ?_ | refine zbs rfl rfl rfl rfl rfl rfl rfl ?_ | refine zg0 rfl rfl ?_)
  exact zal ⟨.inr rfl, _, rfl, rfl⟩
 have h : zes n es = 0 := by simpa using h
 have he := zlp h
 rw [if_pos h]
 repeat (first | refine za7 ?_ | refine za0 rfl ?_ | refine za5 ?_ | refine za4 ?_ | refine zaj ?_ | refine zai ?_ | refine zcx rfl ?_ | refine za3 rfl ?_ | refine zad rfl rfl ?_ | refine zbs rfl rfl rfl rfl rfl rfl rfl ?_ | refine zac rfl rfl rfl ?_ | refine zcp ?_ | refine zg0 rfl rfl ?_)
 refine zce (fun mm S => ∃ i v hp nx ck, mm = es.length - i ∧ i ≤ es.length ∧ Rq n (swE (es.take i)) v v hp nx ∧ S = st 42 [(1, .vptr [.int .i64 n, .vs (cE es)]), (2, .mptr 0 0 0), (5, .mptr 1 1 0), (6, .int .i64 (i : Nat))] hp nx ck) es.length
  (za9 (.cons rfl (.cons rfl (.cons rfl (.cons rfl .nil))))) ⟨0, .nils, _, _, _, rfl, Nat.zero_le _, ⟨rfl, rfl, .inl ⟨rfl, rfl⟩, by decide⟩, rfl⟩ ?_
 rintro mm S ⟨i, v, hp, nx, ck, rfl, hi, hF, rfl⟩
 have hql := zsh es i
 unfold b30_0
 repeat (first | refine za7 ?_ | refine za0 rfl ?_ | refine za3 rfl ?_ | refine zad rfl rfl ?_ | refine zac rfl rfl rfl ?_ | refine zch rfl rfl ?_)
 refine zav rfl rfl rfl (fun h3 => ?_) fun h3 => ?_
 ·have hlt : i < es.length := by
   have h4 : ((i : Nat) : Int) < (((cE es).length : Nat) : Int) := of_decide_eq_true h3
   omega
  have w1 : IntKind.wrap .i64 (((i : Nat) : Int) + 1) = ((i + 1 : Nat) : Int) := zb4 i (by omega)
  have hg := zki hlt
  have hs := zo3 hlt
  generalize es[i].1 = a at *
  generalize es[i].2 = b at *
  repeat (first | refine za7 ?_ | refine za5 ?_ | refine za4 ?_ | refine zaj ?_ | refine zai ?_ | refine zd3 rfl ?_)
  refine z_cut env0_ok 17 [] (fun x hx => by cases hx) (fun _ => false) (fun i => Nat.beq i 1) (fun i => !(Nat.beq i 1)) (fun i h1 h2 => by rw [h1] at h2; cases h2) rfl rfl rfl rfl ?_
  show Om _ _ _ _ _ [_, _, _, _, _, _, _, _, _, _, _, _, _, _, _, _, _] _ _ _
  refine zc0 rfl ?_
  refine zaz (id := 1) (sp := 1) (off := 0 + 1) rfl hF.out hF.nx1 rfl ?_ (zp8 rfl rfl)
  repeat (first | refine za3 rfl ?_ | refine zad rfl rfl ?_ | refine zac rfl rfl rfl ?_ | refine zg0 rfl rfl ?_ | refine zcc rfl rfl ?_ | refine zbf rfl rfl (by omega) (by assumption) rfl ?_)
  have hF1 := hF.fresh ck (.cells [.int .i64 b, .int .i64 a])
  have hel : ∀ l : List (Nat × AV), (st 42 l ((nx, ck, AObj.cells [.int .i64 b, .int .i64 a]) :: hp) (nx + 1) (ck + 1) []).elems 2 (.ms nx ck 2 0 1 (some 1)) = some [[.int .i64 b, .int .i64 a]] := fun l => zd4 (xs := [[.int .i64 b, .int .i64 a]]) (ys := []) zb7 rfl fun x hx => by obtain rfl := List.mem_singleton.1 hx; rfl
  rcases hF1.lst with ⟨hq, rfl⟩ | ⟨id, sp, rfl, hl, h1, h2⟩
  ·rw [hq] at hF1 hs
   have hF2 := hF1.app_new (ck + 1) (b, a)
   refine znn (v := .ms (nx + 1) (ck + 1) 2 0 1 none) (hp' := (nx + 1, ck + 1, .cells [.int .i64 b, .int .i64 a]) :: (nx, ck, .cells [.int .i64 b, .int .i64 a]) :: hp) (nx' := nx + 1 + 1) (ck' := ck + 1 + 1) rfl rfl (hel []) rfl ?_ (zrj rfl)
   refine za5 (zal ⟨rfl, fun rd => ?_⟩)
   refine AnyF.one 17 rfl (zkd (i := 17) rfl rfl (zjd rfl) ?_)
   refine AnyF.one 18 rfl (zgx (i := 18) rfl (ze9 (id := 1) (sp := 1) (off := 0 + 1) rfl rfl rfl rfl hF2.out rfl rfl) ?_)
   refine AnyF.fin rfl (Um.ok ?_)
   repeat (first | refine za0 rfl ?_ | refine za5 ?_ | refine za4 ?_ | refine zc6 ?_ | refine za3 rfl ?_ | refine zc3 (op := .add) rfl rfl rfl ?_)
   rw [w1]
   exact zaw (show es.length - (i + 1) < es.length - i by omega) (za9 (.cons rfl (.cons rfl (.cons rfl (.cons rfl .nil))))) ⟨i + 1, _, _, _, _, rfl, hlt, by rw [hs]; exact hF2.store _, rfl⟩
  ·have hsd : (fun i => !(Nat.beq i 1)) id = true := by
    show (!(Nat.beq id 1)) = true
    cases hb : Nat.beq id 1 with
    | false => rfl
    | true => have := Nat.eq_of_beq_eq_true hb; omega
   have hF2 := hF1.app_old (len := 0) h1 h2 (ck + 1) (b, a)
   refine zdx [[.int .i64 b, .int .i64 a]] rfl rfl (hel _) (fun h => Nat.noConfusion h) rfl (by decide) hl (zh1 _).symm (by show _ + 1 ≤ _; omega) ?_ (apOk rfl hsd)
   rw [zq2 _ (b, a)]
   refine za5 (zal ⟨rfl, fun rd => ?_⟩)
   refine AnyF.one 17 rfl (zkd (i := 17) rfl rfl (zjd rfl) ?_)
   refine AnyF.one 18 rfl (zgx (i := 18) rfl (ze9 (id := 1) (sp := 1) (off := 0 + 1) rfl rfl rfl rfl hF2.out rfl rfl) ?_)
   refine AnyF.fin rfl (Um.ok ?_)
   repeat (first | refine za0 rfl ?_ | refine za5 ?_ | refine za4 ?_ | refine zc6 ?_ | refine za3 rfl ?_ | refine zc3 (op := .add) rfl rfl rfl ?_)
   rw [w1]
   exact zaw (show es.length - (i + 1) < es.length - i by omega) (za9 (.cons rfl (.cons rfl (.cons rfl (.cons rfl .nil))))) ⟨i + 1, _, _, _, _, rfl, hlt, by rw [hs]; exact hF2.store _, rfl⟩
 ·have hie : i = es.length := by
   have h4 : ¬ ((i : Nat) : Int) < (((cE es).length : Nat) : Int) := of_decide_eq_false h3
   omega
  subst hie
  rw [List.take_length] at hF
  repeat (first | refine za5 ?_ | refine za4 ?_ | refine zcx rfl ?_ | refine zck ?_ | refine zak ?_)
  refine ze4 ?_
  repeat (first | refine za7 ?_ | refine za0 rfl ?_ | refine za4 ?_ | refine zcj ?_)
  refine znp (id := 1) (sp := 1) (off := 0) rfl hF.out hF.nx1 rfl rfl ?_
  refine zbs (id := 0) (sp := 0) (off := 0) (v := .agg [.int .i64 n, v]) (vs := [.int .i64 n, v]) rfl rfl rfl rfl hF.res rfl (by rw [List.all_cons, List.all_cons, hF.lst.cell.1]; rfl) ?_
  repeat (first | refine za5 ?_ | refine za4 ?_ | refine zar ?_ | refine za3 rfl ?_)
  refine zal ⟨.inr rfl, _, res_aggt ((zic 2).trans rfl) (zja (sp := 0) (cs := [.int .i64 n, v]) (by show Am.look 0 (zc1 0 _ hp) = _; rw [za6, if_pos rfl]; rfl) (show 0 < nx by have := hF.nx1; omega) rfl) ((zic 3).trans rfl), ?_⟩
  have hv : Rv (swE es) v (zc1 0 (0, .cells [.int .i64 n, v]) hp) nx := by
   rcases hF.lst with h2 | ⟨id, sp, e, hl, a, b⟩
   ·exact .inl h2
   ·exact .inr ⟨id, sp, e, by rw [za6, if_neg (by omega)]; exact hl, a, b⟩
  exact congrArg AV.tup (zme (congrArg AV.agg (zme rfl hv.view)) rfl)
end Go.Proofs.Ytoagikifehmlpaa
