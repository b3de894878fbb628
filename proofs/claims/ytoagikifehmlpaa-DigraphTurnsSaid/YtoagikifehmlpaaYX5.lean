/-
  THE CONDENSED GRAPH: Condense walked.; THE ORDER: Order and Layers walked.; CYCLES: plain law; a list behind a literal; Cycle walked.; CYCLES: the reference's Round and Cycle.; THE REFERENCE's CONDENSED GRAPH: Condense walked.; Components and Condense return the results of the reference: the law.; WHAT EVERY LAW OF THE SEAT SHARES.; READING THE ARGUMENTS: graphs, numbers.
-/
import Derived.Test.YtoagikifehmlpaaYX4
import Derived.Test.YtoagikifehmlpaaRows
import Derived.JoinedCond
namespace Go.Proofs.Ytoagikifehmlpaa
open Go Go.Am
def cndN (m : Nat) (E : List (Nat × Nat)) : AV := .tup [cG ((rps E m m).length : Nat) (zaj (zqu (zgy E m E) (rps E m m).length (rps E m m).length)), vsI (iL ((List.range m).map (cpN E m))), .int .i64 0]
def cndV (n : Int) (es : List (Int × Int)) : AV := if zcj n es = 0 then cndN n.toNat (es.map fun e => (e.1.toNat, e.2.toNat)) else .tup [cG 0 [], .vs [], .int .i64 (zcj n es)]
theorem znf {m : Nat} {E : List (Nat × Nat)} (h : zcj m (zaj E) = 0) : cndV m (zaj E) = cndN m E := by
 unfold cndV
 rw [if_pos h, zfy]
 rfl
theorem zka {n : Int} {es : List (Int × Int)} (h : zcj n es ≠ 0) : cndV n es = .tup [cG 0 [], .vs [], .int .i64 (zcj n es)] := if_neg h
theorem zvs {α : Type} {a a' b b' c c' : α} (h1 : a = a') (h2 : b = b') (h3 : c = c') : [a, b, c] = [a', b', c'] := by rw [h1, h2, h3]
theorem zms {S : AS} {a b c : Nat} {pa x y v u : AV} (h1 : S.get a = some pa) (d1 : S.deref pa = some [x, y]) (h2 : S.get b = some v) (h3 : S.get c = some u) : S.res [.cell a (some 2), .t b, .t c] = some (.tup [.agg [x, y], v, u]) := by
 simp [AS.res, AS.resL, zu4, h1, d1, h2, h3]
theorem zub {x : Nat} {l : List Nat} (h : x ∉ l) : zl1 x l = false := by
 cases hb : zl1 x l with
 | false => rfl
 | true => exact absurd (zey.1 hb) h
theorem noM_cE : ∀ q : List (Int × Int), hasM.hasML (cE q).flatten = false
 | [] => rfl
 | e :: q => by
  show (hasM (AV.int .i64 e.1) || (hasM (AV.int .i64 e.2) || hasM.hasML (cE q).flatten)) = false
  rw [noM_cE q]
  rfl
theorem z_big {P : Program} {w0 : World} {N0 n nx ck : Nat} {k : List Fr} {Q : Exit → AS → Prop} {ic : IC} {l : List (Nat × AV)} {hp : List (Nat × Nat × AObj)} {g b v : AV} {z : Int} {q : List (Int × Int)} (hF : Rq z q v v hp nx) (h2 : zbu 2 l = some (.mptr 0 0 0)) (h6 : zbu 6 l = some g) (mg : hasM g = false) (h7 : zbu 7 l = some b) (mb : hasM b = false) (h8 : zbu 8 l = some (.mptr 1 1 0))
  (go : Zm P w0 N0 none ic (st n [(2, .mptr 0 0 0), (6, g), (7, b), (8, .vptr [.int .i64 z, .vs (cE q)])] [(0, 0, .cells [.int .i64 0, .nils])] 1 1) k Q) : Zm P w0 N0 none ic (st n l hp nx ck) k Q := by
 have go2 : Zm P w0 N0 none ic (st n [(2, .mptr 0 0 0), (6, g), (7, b), (8, .mptr 1 0 0)] [(0, 0, .cells [.int .i64 0, .nils]), (1, 0, .cells [.int .i64 z, .vs (cE q)])] 2 1) k Q :=
  zba [(some (0, 0), [.int .i64 0, .nils])] [(1, 0, [.int .i64 z, .vs (cE q)])] [(2, .mptr 0 0 0), (6, g), (7, b), (8, .vptr [.int .i64 z, .vs (cE q)])] rfl (.cons rfl rfl .nil) (.cons rfl (.cons (.same rfl) (.cons (.same rfl) .nil)) .nil) (.cons rfl (.mptr rfl) (.cons rfl (.same mg) (.cons rfl (.same mb) (.cons rfl (.fptr rfl rfl) .nil)))) go
 rcases hF.lst with ⟨rfl, rfl⟩ | ⟨id, sp, rfl, hl, h3, _⟩
 ·exact zba [(some (0, 0), [.int .i64 0, .nils]), (some (1, 1), [.int .i64 z, .vs []])] [] [(2, .mptr 0 0 0), (6, g), (7, b), (8, .mptr 1 0 0)] rfl .nil (.cons hF.res (.cons (.same rfl) (.cons (.same rfl) .nil)) (.cons hF.out (.cons (.same rfl) (.cons .nilvs .nil)) .nil)) (.cons h2 (.mptr rfl) (.cons h6 (.same mg) (.cons h7 (.same mb) (.cons h8 (.mptr rfl) .nil)))) go2
 ·have hok : okW [id] [(some (0, 0), [.int .i64 0, .nils]), (some (1, 1), [.int .i64 z, .vs (cE q)])] = true := by
   show (!zl1 0 [id] && (!zl1 1 [0, id] && true)) = true
   rw [zub (by simp; omega), zub (by simp; omega)]
   rfl
  have hfz : fzl id sp [(id, sp, (cE q).flatten)] = some (cE q).flatten := by
   unfold fzl
   simp
  refine zba [(some (0, 0), [.int .i64 0, .nils]), (some (1, 1), [.int .i64 z, .vs (cE q)])] [(id, sp, (cE q).flatten)] [(2, .mptr 0 0 0), (6, g), (7, b), (8, .mptr 1 0 0)] hok (.cons hl ?_ .nil) (.cons hF.res (.cons (.same rfl) (.cons (.same rfl) .nil)) (.cons hF.out (.cons (.same rfl) (.cons (.fms hfz (zbj q) (fun x hx => by obtain ⟨s, _, rfl⟩ := List.mem_map.1 hx; rfl) ⟨[], by rw [List.drop_zero, List.append_nil]⟩) .nil)) .nil)) (.cons h2 (.mptr rfl) (.cons h6 (.same mg) (.cons h7 (.same mb) (.cons h8 (.mptr rfl) .nil)))) go2
  exact noM_cE q
def b15_0 : IC := .seq (.region [⟨(some 35), .bin .lss (.t 34) (.t 33), none⟩] none)
 (.seq (.cond (.t 35) (.skip)
 (.exit 0))
 (.seq (.block 1 (.seq (.region [⟨(some 36), .idxs 2 (.t 32) (.t 34), none⟩,
  ⟨(some 37), .load (some 2) (.t 36), none⟩,
  ⟨(some 10), .alloc [.int .i64 0, .int .i64 0], none⟩,
  ⟨none, .store 2 (.t 10) (.t 37), none⟩] none)
 (.seq (.region [⟨(some 38), .mov (.t 6), none⟩,
  ⟨(some 39), .faddr 0 (.t 10), none⟩,
  ⟨(some 40), .load none (.t 39), none⟩,
  ⟨(some 41), .idxs 1 (.t 38) (.t 40), none⟩,
  ⟨(some 42), .load none (.t 41), none⟩,
  ⟨(some 43), .mov (.t 6), none⟩,
  ⟨(some 44), .faddr 1 (.t 10), none⟩,
  ⟨(some 45), .load none (.t 44), none⟩,
  ⟨(some 46), .idxs 1 (.t 43) (.t 45), none⟩,
  ⟨(some 47), .load none (.t 46), none⟩,
  ⟨(some 11), .mov (.t 42), none⟩,
  ⟨(some 12), .mov (.t 47), none⟩] (some [[], [], [1], [0, 2], [3], [], [], [6], [5, 7], [8], [4, 0, 1, 2, 3, 4], [9, 10, 0, 1, 2, 3, 4, 5, 6, 7, 8, 9, 10]]))
 (.seq (.region [⟨(some 48), .mov (.t 11), none⟩,
  ⟨(some 49), .mov (.t 12), none⟩,
  ⟨(some 50), .bin .neq (.t 48) (.t 49), none⟩] none)
 (.cond (.t 50) (.region [⟨(some 51), .faddr 1 (.t 8), none⟩,
  ⟨(some 52), .load none (.t 51), none⟩,
  ⟨(some 53), .mov (.t 11), none⟩,
  ⟨(some 54), .mov (.t 12), none⟩,
  ⟨(some 55), .build [.int .i64 0, .int .i64 0] [(0, 1, (.t 53)), (1, 1, (.t 54))], none⟩,
  ⟨(some 56), .bslice 2 1 [.int .i64 0, .int .i64 0] [(0, 2, (.t 55))], none⟩,
  ⟨(some 57), .append 2 16 [.int .i64 0, .int .i64 0] (.t 52) (.t 56), none⟩,
  ⟨(some 58), .faddr 1 (.t 8), none⟩,
  ⟨none, .store 1 (.t 58) (.t 57), none⟩] none)
 (.skip))))))
 (.region [⟨(some 59), .bin .add (.t 34) (.c (.int .i64 1)), none⟩,
  ⟨(some 34), .mov (.t 59), none⟩] none)))
def b15_4 : IC := .seq (.region [⟨(some 73), .bin .lss (.t 72) (.t 71), none⟩] none)
 (.seq (.cond (.t 73) (.skip)
 (.exit 4))
 (.seq (.block 5 (.seq (.region [⟨(some 74), .idxs 1 (.t 70) (.t 72), none⟩,
  ⟨(some 75), .load none (.t 74), none⟩,
  ⟨(some 17), .mov (.t 75), none⟩] none)
 (.region [⟨(some 76), .faddr 1 (.t 13), none⟩,
  ⟨(some 77), .load none (.t 76), none⟩,
  ⟨(some 78), .mov (.t 14), none⟩,
  ⟨(some 79), .mov (.t 17), none⟩,
  ⟨(some 80), .build [.int .i64 0, .int .i64 0] [(0, 1, (.t 78)), (1, 1, (.t 79))], none⟩,
  ⟨(some 81), .bslice 2 1 [.int .i64 0, .int .i64 0] [(0, 2, (.t 80))], none⟩,
  ⟨(some 82), .append 2 16 [.int .i64 0, .int .i64 0] (.t 77) (.t 81), none⟩,
  ⟨(some 83), .faddr 1 (.t 13), none⟩,
  ⟨none, .store 1 (.t 83) (.t 82), none⟩] none)))
 (.region [⟨(some 84), .bin .add (.t 72) (.c (.int .i64 1)), none⟩,
  ⟨(some 72), .mov (.t 84), none⟩] none)))
def b15_2 : IC := .seq (.region [⟨(some 66), .bin .lss (.t 65) (.t 64), none⟩] none)
 (.seq (.cond (.t 66) (.skip)
 (.exit 2))
 (.seq (.block 3 (.seq (.region [⟨(some 67), .mov (.t 65), none⟩,
  ⟨(some 68), .idxs 1 (.t 63) (.t 65), none⟩,
  ⟨(some 69), .load none (.t 68), none⟩,
  ⟨(some 14), .mov (.t 67), none⟩,
  ⟨(some 15), .mov (.t 69), none⟩] none)
 (.seq (.region [⟨(some 70), .mov (.t 15), none⟩,
  ⟨(some 71), .len false (.t 70), none⟩,
  ⟨(some 72), .mov (.c (.int .i64 0)), none⟩] none)
 (.block 4 (.loop b15_4)))))
 (.region [⟨(some 85), .bin .add (.t 65) (.c (.int .i64 1)), none⟩,
  ⟨(some 65), .mov (.t 85), none⟩] none)))
-- pneumatic/digraph.Condense
def ic15 : IC := .seq (.region [⟨(some 1), .box (.t 0), none⟩,
  ⟨(some 2), .alloc [.int .i64 0, .nils], none⟩,
  ⟨(some 3), .mov (.c (.nils)), none⟩,
  ⟨(some 4), .mov (.c (.int .i64 0)), none⟩] none)
 (.seq (.seq (.region [⟨(some 18), .load (some 2) (.t 1), none⟩,
  ⟨(some 19), .call (.c (.fn 34 [] [])) [(.t 18)], none⟩,
  ⟨(some 5), .mov (.t 19), none⟩] none)
 (.seq (.region [⟨(some 20), .mov (.t 5), none⟩,
  ⟨(some 21), .bin .neq (.t 20) (.c (.int .i64 0)), none⟩] none)
 (.cond (.t 21) (.seq (.region [⟨(some 22), .build [.int .i64 0, .nils] [], none⟩,
  ⟨(some 23), .mov (.t 5), none⟩,
  ⟨none, .store 2 (.t 2) (.t 22), none⟩,
  ⟨(some 3), .mov (.c (.nils)), none⟩,
  ⟨(some 4), .mov (.t 23), none⟩] none)
 (.ret))
 (.skip))))
 (.seq (.region [⟨(some 25), .load (some 2) (.t 1), none⟩,
  ⟨(some 26), .call (.c (.fn 43 [] [])) [(.t 25)], none⟩,
  ⟨(some 24), .mov (.t 26), none⟩,
  ⟨(some 27), .extract (.t 24) 0, none⟩,
  ⟨(some 28), .extract (.t 24) 1, none⟩,
  ⟨(some 6), .mov (.t 27), none⟩,
  ⟨(some 7), .mov (.t 28), none⟩] none)
 (.seq (.region [⟨(some 29), .mov (.t 7), none⟩,
  ⟨(some 30), .build [.int .i64 0, .nils] [(0, 1, (.t 29))], none⟩,
  ⟨(some 8), .alloc [.int .i64 0, .nils], none⟩,
  ⟨none, .store 2 (.t 8) (.t 30), none⟩] none)
 (.seq (.seq (.region [⟨(some 31), .faddr 1 (.t 1), none⟩,
  ⟨(some 32), .load none (.t 31), none⟩,
  ⟨(some 33), .len false (.t 32), none⟩,
  ⟨(some 34), .mov (.c (.int .i64 0)), none⟩] none)
 (.block 0 (.loop b15_0)))
 (.seq (.region [⟨(some 60), .mov (.t 7), none⟩,
  ⟨(some 61), .build [.int .i64 0, .nils] [(0, 1, (.t 60))], none⟩,
  ⟨(some 13), .alloc [.int .i64 0, .nils], none⟩,
  ⟨none, .store 2 (.t 13) (.t 61), none⟩] none)
 (.seq (.seq (.region [⟨(some 62), .load (some 2) (.t 8), none⟩,
  ⟨(some 63), .call (.c (.fn 45 [] [])) [(.t 62)], none⟩,
  ⟨(some 64), .len false (.t 63), none⟩,
  ⟨(some 65), .mov (.c (.int .i64 0)), none⟩] none)
 (.block 2 (.loop b15_2)))
 (.seq (.region [⟨(some 86), .load (some 2) (.t 13), none⟩,
  ⟨(some 87), .mov (.t 6), none⟩,
  ⟨none, .store 2 (.t 2) (.t 86), none⟩,
  ⟨(some 3), .mov (.t 87), none⟩,
  ⟨(some 4), .mov (.c (.int .i64 0)), none⟩] none)
 (.ret))))))))
theorem fn15 : env0.fn 15 = some ⟨88, ic15, [.cell 2 (some 2), .t 3, .t 4]⟩ := by kernel_rfl
set_option maxHeartbeats 8000000 in
theorem zqv (n : Int) (es : List (Int × Int)) (hn : zcj n es = 0 → n ≤ 12) : PF Try.prog 15 [cG n es] (cndV n es) := by
 have p34 := zk8 n es
 refine zb7 env0_ok fn15 [(0, .agg [.int .i64 n, .vs (cE es)])] (by show 1 ≤ 88; decide) rfl fun w0 N0 => ?_
 unfold ic15
 refine za6 (za0 rfl (zdh rfl rfl (zbm (za2 rfl (za2 rfl (za3 (za1 ?_)))))))
 refine zba [(some (1, 1), [.int .i64 0, .nils])] [(0, 0, [.int .i64 n, .vs (cE es)])] [(1, .vptr [.int .i64 n, .vs (cE es)]), (2, .mptr 0 0 0)] rfl (.cons rfl rfl .nil) (.cons rfl (.cons (.same rfl) (.cons (.same rfl) .nil)) .nil) (.cons rfl (.fptr rfl rfl) (.cons rfl (.mptr rfl) .nil)) ?_
 repeat (first | refine za6 ?_ | refine za0 rfl ?_ | refine zap rfl rfl rfl rfl ?_)
 refine zau rfl rfl p34 (fun h => Bool.noConfusion (show false = true from h)) ?_
 repeat (first | refine za6 ?_ | refine za0 rfl ?_ | refine za3 ?_ | refine za1 ?_ | refine za2 rfl ?_)
 refine zao rfl rfl rfl (fun h => ?_) fun h => ?_
 ·have h : ¬ zcj n es = 0 := by simpa using h
  rw [zka h]
  repeat (first | refine za6 ?_ | refine za0 rfl ?_ | refine za3 ?_ | refine za1 ?_ | refine zc5 rfl ?_ | refine zax ?_ | refine zam ?_ | refine za2 rfl ?_ | refine zbf rfl rfl rfl rfl rfl rfl rfl ?_ | refine zdo rfl rfl ?_)
  exact zav ⟨.inr rfl, _, rfl, rfl⟩
 have h : zcj n es = 0 := by simpa using h
 have hn := hn h
 obtain ⟨m, E, rfl, rfl, hm, _, hE, hb⟩ := zf7 h
 rw [znf h]
 have p43 := zgt m (by omega) E hE hb
 unfold cmpV at p43
 rw [zsm] at p43
 have hrl := zfm E m m
 have hcp := fun v (hv : v < m) => zjd hb hv
 have hbl := bigE_lt hb
 unfold cndN
 have hcl : ((List.range m).map (cpN E m)).length = m := by rw [List.length_map, List.length_range]
 have hcg : ∀ v, v < m → ((iL ((List.range m).map (cpN E m))).map fun z => ([.int .i64 z] : List AV))[((v : Nat) : Int).toNat]? = some [.int .i64 (cpN E m v : Nat)] := fun v hv => by
  rw [zjh (by rw [hcl]; exact hv), ← zni (by rw [hcl]; exact hv), List.getElem_map, List.getElem_range]
 have hcE : (cE (zaj E)).length = E.length := by rw [zbj]; exact List.length_map ..
 generalize hnn : (rps E m m).length = nn at *
 repeat (first | refine za6 ?_ | refine za0 rfl ?_ | refine za3 ?_ | refine za1 ?_ | refine zad ?_ | refine zbp rfl ?_ | refine zap rfl rfl rfl rfl ?_)
 refine zau rfl rfl p43 (fun h => Bool.noConfusion (show false = true from h)) ?_
 repeat (first | refine za6 ?_ | refine za0 rfl ?_ | refine za3 ?_ | refine za1 ?_ | refine zab ?_ | refine za2 rfl ?_ | refine zaf rfl rfl ?_ | refine zbf rfl rfl rfl rfl rfl rfl rfl ?_ | refine zae rfl rfl rfl ?_ | refine zbm ?_ | refine zbh rfl rfl ?_ | refine zdo rfl rfl ?_ | refine zb9 rfl rfl ?_)
 refine zb6 (fun mm S => ∃ i v hp nx ck, mm = E.length - i ∧ i ≤ E.length ∧ Rq (nn : Nat) (zaj (zgy E m (E.take i))) v v hp nx ∧ S = st 88 [(1, .vptr [.int .i64 (m : Nat), .vs (cE (zaj E))]), (2, .mptr 0 0 0), (6, vsI (iL ((List.range m).map (cpN E m)))), (7, .int .i64 (nn : Nat)), (8, .mptr 1 1 0), (32, .vs (cE (zaj E))), (33, .int .i64 (E.length : Nat)), (34, .int .i64 (i : Nat))] hp nx ck) E.length
  (za7 (.cons rfl (.cons rfl (.cons rfl (.cons rfl (.cons rfl (.cons rfl (.cons (by exact congrArg (fun z : Nat => some (AV.int .i64 (z : Nat))) hcE) (.cons rfl .nil))))))))) ⟨0, .nils, _, _, _, rfl, Nat.zero_le _, ⟨rfl, rfl, .inl ⟨rfl, rfl⟩, by decide⟩, rfl⟩ ?_
 rintro mm S ⟨i, v, hp, nx, ck, rfl, hi, hF, rfl⟩
 have hql := zk4 E m (E.take i)
 rw [List.length_take] at hql
 unfold b15_0
 repeat (first | refine za6 ?_ | refine za0 rfl ?_)
 refine zao rfl rfl rfl (fun h3 => ?_) fun h3 => ?_
 ·have hlt : i < E.length := Int.ofNat_lt.1 (of_decide_eq_true h3)
  have w1 : IntKind.wrap .i64 (((i : Nat) : Int) + 1) = ((i + 1 : Nat) : Int) := zag i (by omega)
  have hg := zel hlt
  obtain ⟨hx, hy⟩ := hb _ _ (List.getElem_mem hlt : (E[i].1, E[i].2) ∈ E)
  have hgx := hcg _ hx
  have hgy := hcg _ hy
  have hts : zgy E m (E.take (i + 1)) = zgy E m (E.take i) ++ (if cpN E m E[i].1 = cpN E m E[i].2 then [] else [(cpN E m E[i].1, cpN E m E[i].2)]) := by
   rw [List.take_add_one, List.getElem?_eq_getElem hlt]
   exact zsb E m (E.take i) E[i]
  generalize cpN E m E[i].1 = a at *
  generalize cpN E m E[i].2 = b at *
  generalize E[i].1 = x at *
  generalize E[i].2 = y at *
  repeat (first | refine za6 ?_ | refine za0 rfl ?_ | refine za3 ?_ | refine za1 ?_ | refine zab ?_ | refine zad ?_ | refine zc5 rfl ?_ | refine zap rfl rfl rfl rfl ?_ | refine zbm ?_ | refine zb0 rfl rfl (by omega) (by assumption) rfl ?_)
  refine zbf (id := nx) (sp := ck) (off := 0) rfl rfl rfl rfl zbe rfl rfl ?_
  have hF1 := hF.fresh2 ck (.cells [.int .i64 0, .int .i64 0]) (ck, .cells [.int .i64 (x : Nat), .int .i64 (y : Nat)])
  have k5 : Am.look nx (zbo nx (ck, AObj.cells [.int .i64 (x : Nat), .int .i64 (y : Nat)]) ((nx, ck, AObj.cells [.int .i64 0, .int .i64 0]) :: hp)) = some (ck, .cells [.int .i64 (x : Nat), .int .i64 (y : Nat)]) := by
   rw [za4, if_pos rfl]
  repeat (first | refine za6 ?_ | refine za3 ?_ | refine za1 ?_ | refine za2 rfl ?_ | refine zaw rfl ?_ | refine zgc env0_ok rfl rfl rfl ?_)
  refine zak (id := nx) (sp := ck) (off := 0) rfl k5 (Nat.lt_succ_self _) rfl ?_
  repeat (first | refine za2 rfl ?_ | refine zaf rfl rfl ?_ | refine zaw rfl ?_ | refine zb0 rfl rfl (by omega) (by assumption) rfl ?_)
  refine zak (id := nx) (sp := ck) (off := 0 + 1) rfl k5 (Nat.lt_succ_self _) rfl ?_
  repeat (first | refine za6 ?_ | refine za0 rfl ?_ | refine za3 ?_ | refine za1 ?_ | refine za2 rfl ?_ | refine zaf rfl rfl ?_ | refine zb0 rfl rfl (by omega) (by assumption) rfl ?_)
  refine zao rfl rfl rfl (fun h4 => ?_) fun h4 => ?_
  ·have h4 : ¬ a = b := fun e => (show ¬ ((a : Nat) : Int) = (b : Nat) by simpa using h4) (by rw [e])
   rw [if_neg h4] at hts
   repeat (first | refine za0 rfl ?_ | refine za3 ?_ | refine za1 ?_ | refine zc5 rfl ?_ | refine zaw rfl ?_)
   refine zak (id := 1) (sp := 1) (off := 0 + 1) rfl hF1.out hF1.nx1 rfl ?_
   repeat (first | refine za2 rfl ?_ | refine zdo rfl rfl ?_ | refine zch rfl rfl ?_)
   refine zpr (x := (((a : Nat) : Int), ((b : Nat) : Int))) (hF1.fresh _ (.cells [.int .i64 (a : Nat), .int .i64 (b : Nat)])) (by rw [zdm]; omega) rfl rfl zbe (by decide) fun w' hp' nx' ck' hF2 => ?_
   repeat (first | refine zaw rfl ?_)
   refine zbd (id := 1) (sp := 1) (off := 0 + 1) rfl rfl hF2.lst.cell.2 hF2.out (by simp) hF2.lst.cell.1 ?_
   repeat (first | refine za0 rfl ?_ | refine za3 ?_ | refine za1 ?_ | refine zb2 ?_ | refine za2 rfl ?_ | refine zay (op := .add) rfl rfl rfl ?_)
   rw [w1]
   exact zah (show E.length - (i + 1) < E.length - i by omega) (za7 (.cons rfl (.cons rfl (.cons rfl (.cons rfl (.cons rfl (.cons rfl (.cons rfl (.cons rfl .nil))))))))) ⟨i + 1, w', _, _, _, rfl, hlt, by rw [hts, zhp]; exact hF2.store w', rfl⟩
  ·have h4 : a = b := Int.ofNat_inj.1 (by simpa using h4)
   rw [if_pos h4, List.append_nil] at hts
   repeat (first | refine za0 rfl ?_ | refine za3 ?_ | refine za1 ?_ | refine zb2 ?_ | refine zad ?_ | refine zbp rfl ?_ | refine za2 rfl ?_ | refine zay (op := .add) rfl rfl rfl ?_)
   rw [w1]
   exact zah (show E.length - (i + 1) < E.length - i by omega) (za7 (.cons rfl (.cons rfl (.cons rfl (.cons rfl (.cons rfl (.cons rfl (.cons rfl (.cons rfl .nil))))))))) ⟨i + 1, v, _, _, _, rfl, hlt, by rw [hts]; exact hF1, rfl⟩
 ·have hie : i = E.length := by
   have h4 : ¬ ((i : Nat) : Int) < ((E.length : Nat) : Int) := of_decide_eq_false h3
   omega
  subst hie
  rw [List.take_length] at hF
  repeat (first | refine za6 ?_ | refine za3 ?_ | refine za1 ?_ | refine zbp rfl ?_ | refine zb4 ?_ | refine zac ?_)
  refine zbx ?_
  repeat (first | refine za6 ?_ | refine za1 ?_ | refine zb3 ?_)
  refine z_big hF rfl rfl rfl rfl rfl rfl ?_
  have p45 := zds nn (by omega) (zgy E m E) (by have := zk4 E m E; omega) hbl
  have hlen : ((List.range nn).map fun v => ([vN (nbr (zgy E m E) nn v)] : List AV)).length = nn := by rw [List.length_map, List.length_range]
  generalize zgy E m E = B at *
  have hb2 := fun u v h => (hbl u v h).2
  refine za0 rfl ?_
  repeat (first | refine za6 ?_ | refine za0 rfl ?_ | refine za3 ?_ | refine za1 ?_ | refine za2 rfl ?_ | refine zap rfl rfl rfl rfl ?_ | refine zbf rfl rfl rfl rfl rfl rfl rfl ?_ | refine zbm ?_ | refine zdo rfl rfl ?_)
  refine zau rfl rfl p45 (fun h => Bool.noConfusion (show false = true from h)) ?_
  repeat (first | refine za3 ?_ | refine za1 ?_ | refine zab ?_ | refine za2 rfl ?_ | refine zbh rfl rfl ?_)
  refine zb6 (fun mm S => ∃ i v hp nx ck, mm = nn - i ∧ i ≤ nn ∧ Rq (nn : Nat) (zaj (zqu B nn i)) v v hp nx ∧ S = st 88 [(2, .mptr 0 0 0), (6, vsI (iL ((List.range m).map (cpN E m)))), (13, .mptr 1 1 0), (63, cN B nn), (64, .int .i64 (nn : Nat)), (65, .int .i64 (i : Nat))] hp nx ck) nn
   (za7 (.cons rfl (.cons rfl (.cons rfl (.cons rfl (.cons (by exact congrArg (fun z : Nat => some (AV.int .i64 (z : Nat))) hlen) (.cons rfl .nil))))))) ⟨0, .nils, _, _, _, rfl, Nat.zero_le _, ⟨rfl, rfl, .inl ⟨rfl, rfl⟩, by decide⟩, rfl⟩ ?_
  rintro mm S ⟨i, v, hp, nx, ck, rfl, hi, hF, rfl⟩
  have hcl2 := zh1 B nn i
  have hmul : i * nn ≤ 12 * 12 := Nat.mul_le_mul (by omega) (by omega)
  unfold b15_2
  repeat (first | refine za6 ?_ | refine za0 rfl ?_)
  refine zao rfl rfl rfl (fun h4 => ?_) fun h4 => ?_
  ·have hlt : i < nn := Int.ofNat_lt.1 (of_decide_eq_true h4)
   have w1 : IntKind.wrap .i64 (((i : Nat) : Int) + 1) = ((i + 1 : Nat) : Int) := zag i (by omega)
   have hgN := zjb (E := B) hlt
   have hnl := zeo B nn i
   have hsucc := zhv B nn i
   generalize nbr B nn i = l at *
   repeat (first | refine za6 ?_ | refine za0 rfl ?_ | refine za3 ?_ | refine za1 ?_ | refine zab ?_ | refine zad ?_ | refine zc5 rfl ?_ | refine za2 rfl ?_ | refine zaf rfl rfl ?_ | refine zbh rfl rfl ?_ | refine zb0 rfl rfl (by omega) (by assumption) rfl ?_)
   refine zb6 (fun mm S => ∃ j v hp nx ck, mm = l.length - j ∧ j ≤ l.length ∧ Rq (nn : Nat) (zaj (zqu B nn i ++ (l.take j).map fun w => (i, w))) v v hp nx ∧ S = st 88 [(2, .mptr 0 0 0), (6, vsI (iL ((List.range m).map (cpN E m)))), (13, .mptr 1 1 0), (14, .int .i64 (i : Nat)), (63, cN B nn), (64, .int .i64 (nn : Nat)), (65, .int .i64 (i : Nat)), (70, vN l), (71, .int .i64 ((l.map fun w => ([.int .i64 (w : Nat)] : List AV)).length : Nat)), (72, .int .i64 (j : Nat))] hp nx ck) l.length
    (za7 (.cons rfl (.cons rfl (.cons rfl (.cons rfl (.cons rfl (.cons rfl (.cons rfl (.cons rfl (.cons rfl (.cons rfl .nil))))))))))) ⟨0, v, _, _, _, rfl, Nat.zero_le _, by rw [List.take_zero, List.map_nil, List.append_nil]; exact hF, rfl⟩ ?_
   rintro mm S ⟨j, v, hp, nx, ck, rfl, hj, hF, rfl⟩
   unfold b15_4
   repeat (first | refine za6 ?_ | refine za0 rfl ?_)
   refine zao rfl rfl rfl (fun h5 => ?_) fun h5 => ?_
   ·have hlt2 : j < l.length := by
     have h6 : ((j : Nat) : Int) < (((l.map fun w => ([.int .i64 (w : Nat)] : List AV)).length : Nat) : Int) := of_decide_eq_true h5
     rw [List.length_map] at h6
     exact Int.ofNat_lt.1 h6
    have w2 : IntKind.wrap .i64 (((j : Nat) : Int) + 1) = ((j + 1 : Nat) : Int) := zag j (by omega)
    have hgv := zk1 hlt2
    have hts : zqu B nn i ++ (l.take (j + 1)).map (fun w => (i, w)) = (zqu B nn i ++ (l.take j).map fun w => (i, w)) ++ [(i, l[j])] := by
     rw [List.take_add_one, List.getElem?_eq_getElem hlt2, List.map_append, ← List.append_assoc]
     rfl
    generalize l[j] = w at *
    repeat (first | refine za6 ?_ | refine za0 rfl ?_ | refine za3 ?_ | refine za1 ?_ | refine zab ?_ | refine zad ?_ | refine zc5 rfl ?_ | refine za2 rfl ?_ | refine zaf rfl rfl ?_ | refine zaw rfl ?_ | refine zb0 rfl rfl (by omega) (by assumption) rfl ?_)
    refine zak (id := 1) (sp := 1) (off := 0 + 1) rfl hF.out hF.nx1 rfl ?_
    repeat (first | refine za2 rfl ?_ | refine zdo rfl rfl ?_ | refine zch rfl rfl ?_)
    refine zpr (x := (((i : Nat) : Int), ((w : Nat) : Int))) (hF.fresh _ (.cells [.int .i64 (i : Nat), .int .i64 (w : Nat)])) (by rw [zdm, List.length_append, List.length_map, List.length_take]; omega) rfl rfl zbe (by decide) fun w' hp' nx' ck' hF2 => ?_
    repeat (first | refine zaw rfl ?_)
    refine zbd (id := 1) (sp := 1) (off := 0 + 1) rfl rfl hF2.lst.cell.2 hF2.out (by simp) hF2.lst.cell.1 ?_
    repeat (first | refine za0 rfl ?_ | refine za3 ?_ | refine za1 ?_ | refine zb2 ?_ | refine za2 rfl ?_ | refine zay (op := .add) rfl rfl rfl ?_)
    rw [w2]
    exact zah (show l.length - (j + 1) < l.length - j by omega) (za7 (.cons rfl (.cons rfl (.cons rfl (.cons rfl (.cons rfl (.cons rfl (.cons rfl (.cons rfl (.cons rfl (.cons rfl .nil))))))))))) ⟨j + 1, w', _, _, _, rfl, hlt2, by rw [hts, zhp]; exact hF2.store w', rfl⟩
   ·have hje : j = l.length := by
     have h6 : ¬ ((j : Nat) : Int) < (((l.map fun w => ([.int .i64 (w : Nat)] : List AV)).length : Nat) : Int) := of_decide_eq_false h5
     rw [List.length_map] at h6
     omega
    subst hje
    rw [List.take_length] at hF
    repeat (first | refine za6 ?_ | refine za3 ?_ | refine za1 ?_ | refine zbp rfl ?_ | refine zb4 ?_ | refine zac ?_)
    refine zbx ?_
    repeat (first | refine za0 rfl ?_ | refine za3 ?_ | refine za1 ?_ | refine zb2 ?_ | refine zb3 ?_ | refine za2 rfl ?_ | refine zay (op := .add) rfl rfl rfl ?_)
    rw [w1]
    exact zah (show nn - (i + 1) < nn - i by omega) (za7 (.cons rfl (.cons rfl (.cons rfl (.cons rfl (.cons rfl (.cons rfl .nil))))))) ⟨i + 1, v, _, _, _, rfl, hlt, by rw [hsucc]; exact hF, rfl⟩
  ·have hie : i = nn := by
    have h5 : ¬ ((i : Nat) : Int) < ((nn : Nat) : Int) := of_decide_eq_false h4
    omega
   subst hie
   repeat (first | refine za6 ?_ | refine za3 ?_ | refine za1 ?_ | refine zbp rfl ?_ | refine zb4 ?_ | refine zac ?_)
   refine zbx ?_
   repeat (first | refine za6 ?_ | refine za0 rfl ?_ | refine za1 ?_ | refine zb3 ?_)
   refine zl4 (id := 1) (sp := 1) (off := 0) rfl hF.out hF.nx1 rfl rfl ?_
   repeat (first | refine za2 rfl ?_)
   refine zbf (id := 0) (sp := 0) (off := 0) (v := .agg [.int .i64 (i : Nat), v]) (vs := [.int .i64 (i : Nat), v]) rfl rfl rfl rfl hF.res rfl (by rw [List.all_cons, List.all_cons, hF.lst.cell.1]; rfl) ?_
   repeat (first | refine za3 ?_ | refine za1 ?_ | refine zax ?_ | refine za2 rfl ?_)
   refine zav ⟨.inr rfl, _, zms ((zf9 2).trans rfl) (zke (sp := 0) (cs := [.int .i64 (i : Nat), v]) (by show Am.look 0 (zbo 0 _ hp) = _; rw [za4, if_pos rfl]; rfl) (show 0 < nx by have := hF.nx1; omega) rfl) ((zf9 3).trans rfl) ((zf9 4).trans rfl), ?_⟩
   have hv : Rv (zaj (zqu B i i)) v (zbo 0 (0, .cells [.int .i64 (i : Nat), v]) hp) nx := by
    rcases hF.lst with h2 | ⟨id, sp, e, hl, a, b⟩
    ·exact .inl h2
    ·exact .inr ⟨id, sp, e, by rw [za4, if_neg (by omega)]; exact hl, a, b⟩
   exact congrArg AV.tup (zvs (congrArg AV.agg (zfi rfl hv.view)) rfl rfl)
end Go.Proofs.Ytoagikifehmlpaa
namespace Go.Proofs.Ytoagikifehmlpaa
open Go Go.Am
def layN (m : Nat) (E : List (Nat × Nat)) : AV := match zvk E m m [] with
 | some l => .tup [vsI (layS E m l), .int .i64 0]
 | none => .tup [.vs [], .int .i64 20]
def layV (n : Int) (es : List (Int × Int)) : AV := if zcj n es = 0 then layN n.toNat (es.map fun e => (e.1.toNat, e.2.toNat)) else .tup [.vs [], .int .i64 (zcj n es)]
theorem zu3 {m : Nat} {E : List (Nat × Nat)} (h : zcj m (zaj E) = 0) : layV m (zaj E) = layN m E := by
 unfold layV
 rw [if_pos h, zfy]
 rfl
theorem layV_err {n : Int} {es : List (Int × Int)} (h : zcj n es ≠ 0) : layV n es = .tup [.vs [], .int .i64 (zcj n es)] := if_neg h
theorem znn (n : Int) (es : List (Int × Int)) : givG n es [] = zcj n es := by
 unfold givG
 split
 ·rename_i h
  rw [h]
  rfl
 ·rfl
def b38_2 : IC := .seq (.region [⟨(some 43), .bin .lss (.t 42) (.t 41), none⟩] none)
 (.seq (.cond (.t 43) (.skip)
 (.exit 2))
 (.seq (.block 3 (.seq (.region [⟨(some 44), .idxs 1 (.t 40) (.t 42), none⟩,
  ⟨(some 45), .load none (.t 44), none⟩,
  ⟨(some 12), .mov (.t 45), none⟩] none)
 (.region [⟨(some 46), .mov (.t 8), none⟩,
  ⟨(some 47), .mov (.t 12), none⟩,
  ⟨(some 48), .mov (.t 8), none⟩,
  ⟨(some 49), .mov (.t 12), none⟩,
  ⟨(some 50), .idxs 1 (.t 48) (.t 49), none⟩,
  ⟨(some 51), .load none (.t 50), none⟩,
  ⟨(some 52), .mov (.t 8), none⟩,
  ⟨(some 53), .mov (.t 10), none⟩,
  ⟨(some 54), .idxs 1 (.t 52) (.t 53), none⟩,
  ⟨(some 55), .load none (.t 54), none⟩,
  ⟨(some 56), .bin .add (.t 55) (.c (.int .i64 1)), none⟩,
  ⟨(some 57), .minmax true [(.t 51), (.t 56)], none⟩,
  ⟨(some 58), .idxs 1 (.t 46) (.t 47), none⟩,
  ⟨none, .store 1 (.t 58) (.t 57), none⟩] (some [[], [], [], [], [2, 3], [4], [], [], [6, 7], [8], [9], [5, 10], [0, 1, 0, 1, 2, 3, 4, 5, 6, 7, 8, 9, 10, 11], [12, 11, 0, 1, 2, 3, 4, 5, 6, 7, 8, 9, 10, 11]]))))
 (.region [⟨(some 59), .bin .add (.t 42) (.c (.int .i64 1)), none⟩,
  ⟨(some 42), .mov (.t 59), none⟩] none)))
def b38_0 : IC := .seq (.region [⟨(some 34), .bin .lss (.t 33) (.t 32), none⟩] none)
 (.seq (.cond (.t 34) (.skip)
 (.exit 0))
 (.seq (.block 1 (.seq (.region [⟨(some 35), .idxs 1 (.t 31) (.t 33), none⟩,
  ⟨(some 36), .load none (.t 35), none⟩,
  ⟨(some 10), .mov (.t 36), none⟩] none)
 (.seq (.region [⟨(some 37), .mov (.t 4), none⟩,
  ⟨(some 38), .mov (.t 10), none⟩,
  ⟨(some 39), .idxs 1 (.t 37) (.t 38), none⟩,
  ⟨(some 40), .load none (.t 39), none⟩,
  ⟨(some 41), .len false (.t 40), none⟩,
  ⟨(some 42), .mov (.c (.int .i64 0)), none⟩] none)
 (.block 2 (.loop b38_2)))))
 (.region [⟨(some 60), .bin .add (.t 33) (.c (.int .i64 1)), none⟩,
  ⟨(some 33), .mov (.t 60), none⟩] none)))
-- pneumatic/digraph.Layers
def ic38 : IC := .seq (.region [⟨(some 1), .box (.t 0), none⟩,
  ⟨(some 2), .mov (.c (.nils)), none⟩,
  ⟨(some 3), .mov (.c (.int .i64 0)), none⟩] none)
 (.seq (.region [⟨(some 14), .load (some 2) (.t 1), none⟩,
  ⟨(some 15), .call (.c (.fn 46 [] [])) [(.t 14), (.c (.nils))], none⟩,
  ⟨(some 13), .mov (.t 15), none⟩,
  ⟨(some 16), .extract (.t 13) 0, none⟩,
  ⟨(some 17), .extract (.t 13) 1, none⟩,
  ⟨(some 4), .mov (.t 16), none⟩,
  ⟨(some 5), .mov (.t 17), none⟩] none)
 (.seq (.seq (.region [⟨(some 18), .mov (.t 5), none⟩,
  ⟨(some 19), .bin .neq (.t 18) (.c (.int .i64 0)), none⟩] none)
 (.cond (.t 19) (.seq (.region [⟨(some 20), .mov (.t 5), none⟩,
  ⟨(some 2), .mov (.c (.nils)), none⟩,
  ⟨(some 3), .mov (.t 20), none⟩] none)
 (.ret))
 (.skip)))
 (.seq (.region [⟨(some 22), .mov (.t 4), none⟩,
  ⟨(some 23), .call (.c (.fn 50 [] [])) [(.t 22)], none⟩,
  ⟨(some 21), .mov (.t 23), none⟩,
  ⟨(some 24), .extract (.t 21) 0, none⟩,
  ⟨(some 25), .extract (.t 21) 1, none⟩,
  ⟨(some 6), .mov (.t 24), none⟩,
  ⟨(some 7), .mov (.t 25), none⟩] none)
 (.seq (.seq (.region [⟨(some 26), .mov (.t 7), none⟩,
  ⟨(some 27), .un .not (.t 26), none⟩] none)
 (.cond (.t 27) (.seq (.region [⟨(some 2), .mov (.c (.nils)), none⟩,
  ⟨(some 3), .mov (.c (.int .i64 20)), none⟩] none)
 (.ret))
 (.skip)))
 (.seq (.region [⟨(some 28), .faddr 0 (.t 1), none⟩,
  ⟨(some 29), .load none (.t 28), none⟩,
  ⟨(some 30), .mkslice 1 8 [.int .i64 0] (.t 29) (.t 29), none⟩,
  ⟨(some 8), .mov (.t 30), none⟩] none)
 (.seq (.seq (.region [⟨(some 31), .mov (.t 6), none⟩,
  ⟨(some 32), .len false (.t 31), none⟩,
  ⟨(some 33), .mov (.c (.int .i64 0)), none⟩] none)
 (.block 0 (.loop b38_0)))
 (.seq (.region [⟨(some 61), .mov (.t 8), none⟩,
  ⟨(some 2), .mov (.t 61), none⟩,
  ⟨(some 3), .mov (.c (.int .i64 0)), none⟩] none)
 (.ret))))))))
theorem fn38 : env0.fn 38 = some ⟨62, ic38, [.t 2, .t 3]⟩ := by kernel_rfl
theorem zq1 (x : Nat) : ∀ (d : List Nat) (o : List Int), (d.foldl (fun o w => rlx o (x, w)) o).length = o.length
 | [], _ => rfl
 | w :: d, o => by rw [List.foldl_cons, zq1 x d, zv5]
theorem zpj (E : List (Nat × Nat)) (m : Nat) : ∀ (l : List Nat) (o : List Int), (l.foldl (fun o x => (nbr E m x).foldl (fun o w => rlx o (x, w)) o) o).length = o.length
 | [], _ => rfl
 | x :: l, o => by rw [List.foldl_cons, zpj E m l, zq1]
set_option maxHeartbeats 8000000 in
theorem layers38 (n : Int) (es : List (Int × Int)) : PF Try.prog 38 [cG n es] (layV n es) := by
 have ez : ∀ o : Nat, 0 + ((o : Nat) : Int).toNat * 1 = o := fun o => by simp
 have p46 := given46 n es [] (Nat.zero_le _)
 refine zb7 env0_ok fn38 [(0, .agg [.int .i64 n, .vs (cE es)])] (by show 1 ≤ 62; decide) rfl fun w0 N0 => ?_
 unfold ic38
 refine za6 (za0 rfl (zdh rfl rfl (za2 rfl (za2 rfl (za3 (za1 ?_))))))
 refine zba [] [(0, 0, [.int .i64 n, .vs (cE es)])] [(1, .vptr [.int .i64 n, .vs (cE es)])] rfl (.cons rfl rfl .nil) .nil (.cons rfl (.fptr rfl rfl) .nil) ?_
 repeat (first | refine za6 ?_ | refine za0 rfl ?_ | refine zap rfl rfl rfl rfl ?_)
 refine zau rfl rfl p46 (fun h => Bool.noConfusion (show false = true from h)) ?_
 by_cases hg : zcj n es = 0
 ·obtain ⟨m, E, rfl, rfl, hm, _, hE, hb⟩ := zf7 hg
  rw [zti ((znn _ _).trans hg), zu3 hg]
  have p50 := sorted50 m hm E hb
  unfold srtV at p50
  unfold layN
  have hb2 := fun u v h => (hb u v h).2
  repeat (first | refine za6 ?_ | refine za0 rfl ?_ | refine za3 ?_ | refine za1 ?_ | refine zad ?_ | refine zbp rfl ?_ | refine za2 rfl ?_ | refine zb9 rfl rfl ?_ | refine zcv rfl rfl rfl ?_)
  refine zau rfl rfl p50 (fun h => Bool.noConfusion (show false = true from h)) ?_
  cases hs : zvk E m m [] with
  | none =>
   repeat (first | refine za6 ?_ | refine za0 rfl ?_ | refine za3 ?_ | refine za1 ?_ | refine zc5 rfl ?_ | refine zax ?_ | refine zam ?_ | refine za2 rfl ?_ | refine zml rfl rfl ?_ | refine zb9 rfl rfl ?_)
   exact zav ⟨.inr rfl, _, rfl, rfl⟩
  | some l =>
   obtain ⟨hT, hll, _⟩ := zqd hs
   repeat (first | refine za6 ?_ | refine za0 rfl ?_ | refine za3 ?_ | refine za1 ?_ | refine zad ?_ | refine zbp rfl ?_ | refine za2 rfl ?_ | refine zaf rfl rfl ?_ | refine zae rfl rfl rfl ?_ | refine zml rfl rfl ?_ | refine zb9 rfl rfl ?_)
   refine zo4 rfl rfl ⟨Int.natCast_nonneg m, Int.le_refl _, by omega, by decide⟩ ?_
   repeat (first | refine za6 ?_ | refine za0 rfl ?_ | refine za3 ?_ | refine za1 ?_ | refine zab ?_ | refine za2 rfl ?_ | refine zbh rfl rfl ?_)
   have hpre := zpi hb hT
   have hvl : ((iL l).map fun z => ([.int .i64 z] : List AV)).length = m := by rw [List.length_map, zd9, hll]
   refine zb6 (fun mm S => ∃ i hp nx ck, mm = m - i ∧ i ≤ m ∧ 0 < nx ∧ Am.look 0 hp = some (1, .cells ((layS E m (l.take i)).map (AV.int .i64))) ∧ S = st 62 [(4, cN E m), (8, .ms 0 1 1 0 m (some m)), (31, vsI (iL l)), (32, .int .i64 (m : Nat)), (33, .int .i64 (i : Nat))] hp nx ck) m
    (za7 (.cons rfl (.cons rfl (.cons rfl (.cons (by exact congrArg (fun z : Nat => some (AV.int .i64 (z : Nat))) hvl) (.cons rfl .nil)))))) ⟨0, _, _, _, rfl, Nat.zero_le _, Nat.zero_lt_one, by rw [List.take_zero]; show some (1, AObj.cells (zei m [.int .i64 0])) = _; rw [ziw]; rfl, rfl⟩ ?_
   rintro mm S ⟨i, hp, nx, ck, rfl, hi, hnx, hk, rfl⟩
   unfold b38_0
   repeat (first | refine za6 ?_ | refine za0 rfl ?_)
   refine zao rfl rfl rfl (fun h3 => ?_) fun h3 => ?_
   ·have hlt : i < m := Int.ofNat_lt.1 (of_decide_eq_true h3)
    have w1 : IntKind.wrap .i64 (((i : Nat) : Int) + 1) = ((i + 1 : Nat) : Int) := zag i (by omega)
    have hltl : i < l.length := by omega
    have hgx : ((iL l).map fun z => ([.int .i64 z] : List AV))[((i : Nat) : Int).toNat]? = some [.int .i64 (l[i] : Nat)] := by
     rw [zew (by rw [zd9]; exact hltl)]
     unfold iL
     rw [List.getElem_map]
    have hxm := hT.lt l[i] (List.getElem_mem hltl)
    have hts : layS E m (l.take (i + 1)) = (nbr E m l[i]).foldl (fun o w => rlx o (l[i], w)) (layS E m (l.take i)) := zg9 (fun o x => (nbr E m x).foldl (fun o w => rlx o (x, w)) o) (List.replicate m 0) hltl
    have hp1 := hpre (l.take i) (l.drop i) (List.take_append_drop i l).symm
    generalize l[i] = x at *
    generalize layS E m (l.take i) = o at *
    have hgN := zjb (E := E) hxm
    have hnl := zeo E m x
    have hin : ∀ w ∈ nbr E m x, w < m := fun w hw => hb2 _ _ ((zcr hb2).1 hw)
    have hxx : x ∉ nbr E m x := fun h => by
     have := hT.walk (Wk.step (.refl x) ((zcr hb2).1 h)) (zop hT.nd hT.lt (Nat.le_of_eq hll.symm) x hxm)
     omega
    have hst := fun j => lyq (E := E) (x := x) hp1.len ((nbr E m x).take j) (fun h => hxx (List.mem_of_mem_take h)) fun w hw => hin w (List.mem_of_mem_take hw)
    have hle := hp1.le
    have hlo := hp1.low
    generalize nbr E m x = d at *
    repeat (first | refine za6 ?_ | refine za0 rfl ?_ | refine za3 ?_ | refine za1 ?_ | refine zab ?_ | refine zad ?_ | refine zc5 rfl ?_ | refine za2 rfl ?_ | refine zaf rfl rfl ?_ | refine zbh rfl rfl ?_ | refine zb0 rfl rfl (by omega) (by assumption) rfl ?_)
    refine zb6 (fun mm S => ∃ j hp, mm = d.length - j ∧ j ≤ d.length ∧ Am.look 0 hp = some (1, .cells (((d.take j).foldl (fun o w => rlx o (x, w)) o).map (AV.int .i64))) ∧ S = st 62 [(4, cN E m), (8, .ms 0 1 1 0 m (some m)), (31, vsI (iL l)), (32, .int .i64 (m : Nat)), (33, .int .i64 (i : Nat)), (10, .int .i64 (x : Nat)), (40, vN d), (41, .int .i64 ((d.map fun w => ([.int .i64 (w : Nat)] : List AV)).length : Nat)), (42, .int .i64 (j : Nat))] hp nx ck) d.length
     (za7 (.cons rfl (.cons rfl (.cons rfl (.cons rfl (.cons rfl (.cons rfl (.cons rfl (.cons rfl (.cons rfl .nil)))))))))) ⟨0, _, rfl, Nat.zero_le _, hk, rfl⟩ ?_
    rintro mm S ⟨j, hp, rfl, hj, hk, rfl⟩
    have hsj := hst j
    unfold b38_2
    repeat (first | refine za6 ?_ | refine za0 rfl ?_)
    refine zao rfl rfl rfl (fun h4 => ?_) fun h4 => ?_
    ·have hlt2 : j < d.length := by
      have h5 : ((j : Nat) : Int) < (((d.map fun w => ([.int .i64 (w : Nat)] : List AV)).length : Nat) : Int) := of_decide_eq_true h4
      rw [List.length_map] at h5
      exact Int.ofNat_lt.1 h5
     have w2 : IntKind.wrap .i64 (((j : Nat) : Int) + 1) = ((j + 1 : Nat) : Int) := zag j (by omega)
     have hgv := zk1 hlt2
     have hym := hin d[j] (List.getElem_mem hlt2)
     have hts2 := zg9 (fun o w => rlx o (x, w)) o hlt2
     have hox := hsj.same x fun h => hxx (List.mem_of_mem_take h)
     have hol2 := hsj.len
     generalize (d.take j).foldl (fun o w => rlx o (x, w)) o = o2 at *
     generalize d[j] = y at *
     have w3 : IntKind.wrap .i64 (gZ o2 x + 1) = gZ o2 x + 1 := zgq _ (by have := hle x; have := hlo x; omega) (by have := hle x; have := hlo x; omega)
     repeat (first | refine za6 ?_ | refine za0 rfl ?_ | refine za3 ?_ | refine za1 ?_ | refine zab ?_ | refine zad ?_ | refine zc5 rfl ?_ | refine za2 rfl ?_ | refine zaf rfl rfl ?_ | refine zgc env0_ok rfl rfl rfl ?_ | refine zb0 rfl rfl (by omega) (by assumption) rfl ?_ | refine zaz rfl rfl (by omega) (by omega) ?_)
     rw [ez]
     refine zak (id := 0) (sp := 1) (off := y) rfl hk hnx (zpd (by omega)) ?_
     repeat (first | refine za2 rfl ?_ | refine zaz rfl rfl (by omega) (by omega) ?_)
     rw [ez]
     refine zak (id := 0) (sp := 1) (off := x) rfl hk hnx (zpd (by omega)) ?_
     repeat (first | refine zuh rfl rfl rfl ?_ | refine zay (op := .add) rfl rfl rfl ?_ | refine zaz rfl rfl (by omega) (by omega) ?_)
     rw [ez, w3, if_pos rfl, show (if gZ o2 x + 1 > gZ o2 y then gZ o2 x + 1 else gZ o2 y) = max (gZ o2 y) (gZ o2 x + 1) from by split <;> omega]
     refine zbd (id := 0) (sp := 1) (off := y) rfl rfl rfl hk (by simp; omega) rfl ?_
     repeat (first | refine za0 rfl ?_ | refine za3 ?_ | refine za1 ?_ | refine zb2 ?_ | refine za2 rfl ?_ | refine zay (op := .add) rfl rfl rfl ?_)
     rw [w2]
     exact zah (show d.length - (j + 1) < d.length - j by omega) (za7 (.cons rfl (.cons rfl (.cons rfl (.cons rfl (.cons rfl (.cons rfl (.cons rfl (.cons rfl (.cons rfl .nil)))))))))) ⟨j + 1, _, rfl, hlt2, by rw [za4, if_pos rfl, ← List.map_set, hts2]; rfl, rfl⟩
    ·have hje : j = d.length := by
      have h5 : ¬ ((j : Nat) : Int) < (((d.map fun w => ([.int .i64 (w : Nat)] : List AV)).length : Nat) : Int) := of_decide_eq_false h4
      rw [List.length_map] at h5
      omega
     subst hje
     rw [List.take_length] at hk
     repeat (first | refine za6 ?_ | refine za3 ?_ | refine za1 ?_ | refine zbp rfl ?_ | refine zb4 ?_ | refine zac ?_)
     refine zbx ?_
     repeat (first | refine za0 rfl ?_ | refine za3 ?_ | refine za1 ?_ | refine zb2 ?_ | refine zb3 ?_ | refine za2 rfl ?_ | refine zay (op := .add) rfl rfl rfl ?_)
     rw [w1]
     exact zah (show m - (i + 1) < m - i by omega) (za7 (.cons rfl (.cons rfl (.cons rfl (.cons rfl (.cons rfl .nil)))))) ⟨i + 1, _, _, _, rfl, hlt, hnx, by rw [hts]; exact hk, rfl⟩
   ·have hie : i = m := by
     have h4 : ¬ ((i : Nat) : Int) < ((m : Nat) : Int) := of_decide_eq_false h3
     omega
    subst hie
    rw [List.take_of_length_le (Nat.le_of_eq hll)] at hk
    repeat (first | refine za6 ?_ | refine za3 ?_ | refine za1 ?_ | refine zbp rfl ?_ | refine zb4 ?_ | refine zac ?_)
    refine zbx ?_
    repeat (first | refine za6 ?_ | refine za0 rfl ?_ | refine za3 ?_ | refine za1 ?_ | refine zax ?_ | refine zb3 ?_ | refine za2 rfl ?_)
    refine zav ⟨.inr rfl, _, rfl, ?_⟩
    have hfl := zpj E i l (List.replicate i 0)
    rw [List.length_replicate] at hfl
    exact congrArg AV.tup (zfi (zct _ hfl hk) rfl)
 ·have hg2 : ¬ givG n es [] = 0 := by rw [znn]; exact hg
  rw [zkl hg2, layV_err hg, znn]
  repeat (first | refine za6 ?_ | refine za0 rfl ?_ | refine za3 ?_ | refine za1 ?_ | refine za2 rfl ?_ | refine zb9 rfl rfl ?_)
  refine zao rfl rfl rfl (fun h => ?_) fun h => absurd (by simpa using h) hg
  repeat (first | refine za6 ?_ | refine za0 rfl ?_ | refine za3 ?_ | refine za1 ?_ | refine zc5 rfl ?_ | refine zax ?_ | refine zam ?_ | refine za2 rfl ?_)
  exact zav ⟨.inr rfl, _, rfl, rfl⟩
end Go.Proofs.Ytoagikifehmlpaa
namespace Go.Proofs.Ytoagikifehmlpaa
open Go Go.Am
structure LsW (back : List Int) (l : List Nat) (b : Int) : Prop where
 none_ : b < 0 → b = -1 ∧ ∀ w ∈ l, gI back w < 0
 some_ : 0 ≤ b → b.toNat ∈ l ∧ 0 ≤ gI back b.toNat
section
variable {w0 : World} {N0 n d nx ck : Nat} {k : List Fr} {Q : Exit → AS → Prop} {hp : List (Nat × Nat × AObj)} {l : List (Nat × AV)} {ios : List Opr}
end
end Go.Proofs.Ytoagikifehmlpaa
namespace Go.Proofs.Ytoagikifehmlpaa
open Go Go.Am
def nbP (E : List (Nat × Nat)) (v w : Nat) : List Nat := (List.range w).filter fun x => E.contains (v, x)
theorem nbP_succ (E : List (Nat × Nat)) (v w : Nat) : nbP E v (w + 1) = if E.contains (v, w) = true then nbP E v w ++ [w] else nbP E v w := by
 unfold nbP
 rw [List.range_succ, List.filter_append, List.filter_cons]
 by_cases c : E.contains (v, w) = true
 ·rw [if_pos c, if_pos c]
  rfl
 ·rw [if_neg c, if_neg c, List.filter_nil, List.append_nil]
end Go.Proofs.Ytoagikifehmlpaa
namespace Go.Proofs.Ytoagikifehmlpaa
open Go Go.Am
def atF (E : List (Nat × Nat)) (m i k : Nat) : List Int := (List.range m).map fun v => if cpN E m v < i ∨ v ∈ (ze7 E m m i).take k then ((cpN E m v : Nat) : Int) else 0
theorem atF_len (E : List (Nat × Nat)) (m i k : Nat) : (atF E m i k).length = m := by
 unfold atF
 rw [List.length_map, List.length_range]
theorem atF_step {E : List (Nat × Nat)} {m i k : Nat} (hk : k < (ze7 E m m i).length) : (atF E m i k).set (ze7 E m m i)[k] ((i : Nat) : Int) = atF E m i (k + 1) := by
 have hmem : (ze7 E m m i)[k] ∈ ze7 E m m i := List.getElem_mem hk
 have hc : cpN E m (ze7 E m m i)[k] = i := eq_of_beq (List.mem_filter.1 hmem).2
 unfold atF
 rw [map_set]
 refine List.map_congr_left fun v _ => ?_
 unfold upd
 have htk : (ze7 E m m i).take (k + 1) = (ze7 E m m i).take k ++ [(ze7 E m m i)[k]] := by rw [List.take_add_one, List.getElem?_eq_getElem hk]; rfl
 by_cases e : v = (ze7 E m m i)[k]
 ·rw [if_pos e, if_pos (.inr (by rw [htk]; exact List.mem_append_right _ (List.mem_singleton.2 e))), e, hc]
 ·rw [if_neg e]
  show (if cpN E m v < i ∨ v ∈ (ze7 E m m i).take k then ((cpN E m v : Nat) : Int) else 0) = _
  by_cases c : cpN E m v < i ∨ v ∈ (ze7 E m m i).take k
  ·rw [if_pos c, if_pos (c.imp_right fun h => by rw [htk]; exact List.mem_append_left _ h)]
  ·rw [if_neg c, if_neg]
   rintro (h | h)
   ·exact c (.inl h)
   ·rw [htk] at h
    rcases List.mem_append.1 h with h | h
    ·exact c (.inr h)
    ·exact e (List.mem_singleton.1 h)
theorem atF_next (E : List (Nat × Nat)) (m i : Nat) : atF E m i (ze7 E m m i).length = atF E m (i + 1) 0 := by
 unfold atF
 refine List.map_congr_left fun v hv => ?_
 rw [List.take_length, List.take_zero]
 have hmem : v ∈ ze7 E m m i ↔ cpN E m v = i := by
  unfold ze7
  rw [List.mem_filter, beq_iff_eq]
  exact ⟨fun h => h.2, fun h => ⟨hv, h⟩⟩
 by_cases c : cpN E m v < i + 1
 ·rw [if_pos (show cpN E m v < i ∨ v ∈ ze7 E m m i from by rw [hmem]; omega), if_pos (.inl c)]
 ·rw [if_neg (show ¬ (cpN E m v < i ∨ v ∈ ze7 E m m i) from by rw [hmem]; omega), if_neg fun h => h.elim c fun h => absurd h List.not_mem_nil]
theorem zs7 (E : List (Nat × Nat)) (m : Nat) : atF E m 0 0 = List.replicate m 0 := by
 unfold atF
 refine List.ext_getElem (by simp) fun i h1 h2 => ?_
 rw [List.getElem_map, List.getElem_replicate, if_neg (fun h => h.elim (Nat.not_lt_zero _) (fun h => absurd h (by simp)))]
theorem atF_end {E : List (Nat × Nat)} {m : Nat} (hb : ∀ u v, (u, v) ∈ E → u < m ∧ v < m) : atF E m (rps E m m).length 0 = iL ((List.range m).map (cpN E m)) := by
 unfold atF iL
 rw [List.map_map]
 refine List.map_congr_left fun v hv => ?_
 rw [if_pos (.inl (zjd hb (List.mem_range.1 hv)))]
 rfl
def fndB (E : List (Nat × Nat)) (m a b : Nat) (l : List (Nat × Nat)) : Bool := l.any fun e => cpN E m e.1 == a && cpN E m e.2 == b
theorem fnd_big (E : List (Nat × Nat)) (m a b : Nat) : (zgy E m E).contains (a, b) = (fndB E m a b E && !(a == b)) := by
 rw [Bool.eq_iff_iff, List.contains_iff_mem, zov, Bool.and_eq_true]
 unfold fndB
 rw [List.any_eq_true]
 constructor
 ·rintro ⟨h1, e, he, h2, h3⟩
  exact ⟨⟨e, he, by rw [Bool.and_eq_true, beq_iff_eq, beq_iff_eq]; exact ⟨h2, h3⟩⟩, by rw [show (a == b) = false from beq_eq_false_iff_ne.2 h1]; rfl⟩
 ·rintro ⟨⟨e, he, h⟩, h1⟩
  rw [Bool.and_eq_true, beq_iff_eq, beq_iff_eq] at h
  exact ⟨fun h2 => (by rw [h2, beq_self_eq_true] at h1; cases h1), e, he, h.1, h.2⟩
def b16_2 : IC := .seq (.seq (.region [⟨(some 32), .mov (.t 9), none⟩,
  ⟨(some 33), .mov (.t 6), none⟩,
  ⟨(some 34), .mov (.t 8), none⟩,
  ⟨(some 35), .idxs 1 (.t 33) (.t 34), none⟩,
  ⟨(some 36), .load none (.t 35), none⟩,
  ⟨(some 37), .len false (.t 36), none⟩,
  ⟨(some 38), .bin .lss (.t 32) (.t 37), none⟩] none)
 (.cond (.t 38) (.skip)
 (.exit 2)))
 (.seq (.block 3 (.region [⟨(some 41), .mov (.t 7), none⟩,
  ⟨(some 42), .mov (.t 6), none⟩,
  ⟨(some 43), .mov (.t 8), none⟩,
  ⟨(some 44), .idxs 1 (.t 42) (.t 43), none⟩,
  ⟨(some 45), .load none (.t 44), none⟩,
  ⟨(some 46), .mov (.t 9), none⟩,
  ⟨(some 47), .idxs 1 (.t 45) (.t 46), none⟩,
  ⟨(some 48), .load none (.t 47), none⟩,
  ⟨(some 49), .mov (.t 8), none⟩,
  ⟨(some 50), .idxs 1 (.t 41) (.t 48), none⟩,
  ⟨none, .store 1 (.t 50) (.t 49), none⟩] none))
 (.region [⟨(some 39), .mov (.t 9), none⟩,
  ⟨(some 40), .bin .add (.t 39) (.c (.int .i64 1)), none⟩,
  ⟨(some 9), .mov (.t 40), none⟩] none))
def b16_0 : IC := .seq (.seq (.region [⟨(some 26), .mov (.t 8), none⟩,
  ⟨(some 27), .mov (.t 6), none⟩,
  ⟨(some 28), .len false (.t 27), none⟩,
  ⟨(some 29), .bin .lss (.t 26) (.t 28), none⟩] none)
 (.cond (.t 29) (.skip)
 (.exit 0)))
 (.seq (.block 1 (.seq (.region [⟨(some 9), .mov (.c (.int .i64 0)), none⟩] none)
 (.block 2 (.loop b16_2))))
 (.region [⟨(some 30), .mov (.t 8), none⟩,
  ⟨(some 31), .bin .add (.t 30) (.c (.int .i64 1)), none⟩,
  ⟨(some 8), .mov (.t 31), none⟩] none))
def b16_8 : IC := .seq (.seq (.region [⟨(some 66), .mov (.t 14), none⟩,
  ⟨(some 67), .faddr 1 (.t 1), none⟩,
  ⟨(some 68), .load none (.t 67), none⟩,
  ⟨(some 69), .len false (.t 68), none⟩,
  ⟨(some 70), .bin .lss (.t 66) (.t 69), none⟩] none)
 (.cond (.t 70) (.skip)
 (.exit 8)))
 (.seq (.block 9 (.region [⟨(some 73), .mov (.t 13), none⟩,
  ⟨(some 74), .mov (.t 73), none⟩,
  ⟨(some 75), .mov (.t 7), some (74, false)⟩,
  ⟨(some 76), .faddr 1 (.t 1), some (74, false)⟩,
  ⟨(some 77), .load none (.t 76), some (74, false)⟩,
  ⟨(some 78), .mov (.t 14), some (74, false)⟩,
  ⟨(some 79), .idxs 2 (.t 77) (.t 78), some (74, false)⟩,
  ⟨(some 80), .faddr 0 (.t 79), some (74, false)⟩,
  ⟨(some 81), .load none (.t 80), some (74, false)⟩,
  ⟨(some 82), .idxs 1 (.t 75) (.t 81), some (74, false)⟩,
  ⟨(some 83), .load none (.t 82), some (74, false)⟩,
  ⟨(some 84), .mov (.t 11), some (74, false)⟩,
  ⟨(some 85), .bin .eql (.t 83) (.t 84), some (74, false)⟩,
  ⟨(some 86), .mov (.t 85), some (74, false)⟩,
  ⟨(some 87), .mov (.t 7), some (86, true)⟩,
  ⟨(some 88), .faddr 1 (.t 1), some (86, true)⟩,
  ⟨(some 89), .load none (.t 88), some (86, true)⟩,
  ⟨(some 90), .mov (.t 14), some (86, true)⟩,
  ⟨(some 91), .idxs 2 (.t 89) (.t 90), some (86, true)⟩,
  ⟨(some 92), .faddr 1 (.t 91), some (86, true)⟩,
  ⟨(some 93), .load none (.t 92), some (86, true)⟩,
  ⟨(some 94), .idxs 1 (.t 87) (.t 93), some (86, true)⟩,
  ⟨(some 95), .load none (.t 94), some (86, true)⟩,
  ⟨(some 96), .mov (.t 12), some (86, true)⟩,
  ⟨(some 97), .bin .eql (.t 95) (.t 96), some (86, true)⟩,
  ⟨(some 98), .pick (.t 86) (.t 97) (.c (.bool false)), some (74, false)⟩,
  ⟨(some 99), .pick (.t 74) (.c (.bool true)) (.t 98), none⟩,
  ⟨(some 13), .mov (.t 99), none⟩] none))
 (.region [⟨(some 71), .mov (.t 14), none⟩,
  ⟨(some 72), .bin .add (.t 71) (.c (.int .i64 1)), none⟩,
  ⟨(some 14), .mov (.t 72), none⟩] none))
def b16_6 : IC := .seq (.seq (.region [⟨(some 60), .mov (.t 12), none⟩,
  ⟨(some 61), .faddr 0 (.t 10), none⟩,
  ⟨(some 62), .load none (.t 61), none⟩,
  ⟨(some 63), .bin .lss (.t 60) (.t 62), none⟩] none)
 (.cond (.t 63) (.skip)
 (.exit 6)))
 (.seq (.block 7 (.seq (.region [⟨(some 13), .mov (.c (.bool false)), none⟩] none)
 (.seq (.seq (.region [⟨(some 14), .mov (.c (.int .i64 0)), none⟩] none)
 (.block 8 (.loop b16_8)))
 (.seq (.region [⟨(some 100), .mov (.t 13), none⟩,
  ⟨(some 101), .mov (.t 100), none⟩,
  ⟨(some 102), .mov (.t 11), some (101, true)⟩,
  ⟨(some 103), .mov (.t 12), some (101, true)⟩,
  ⟨(some 104), .bin .neq (.t 102) (.t 103), some (101, true)⟩,
  ⟨(some 105), .pick (.t 101) (.t 104) (.c (.bool false)), none⟩] none)
 (.cond (.t 105) (.region [⟨(some 106), .faddr 1 (.t 10), none⟩,
  ⟨(some 107), .load none (.t 106), none⟩,
  ⟨(some 108), .mov (.t 11), none⟩,
  ⟨(some 109), .mov (.t 12), none⟩,
  ⟨(some 110), .build [.int .i64 0, .int .i64 0] [(0, 1, (.t 108)), (1, 1, (.t 109))], none⟩,
  ⟨(some 111), .bslice 2 1 [.int .i64 0, .int .i64 0] [(0, 2, (.t 110))], none⟩,
  ⟨(some 112), .append 2 16 [.int .i64 0, .int .i64 0] (.t 107) (.t 111), none⟩,
  ⟨(some 113), .faddr 1 (.t 10), none⟩,
  ⟨none, .store 1 (.t 113) (.t 112), none⟩] none)
 (.skip))))))
 (.region [⟨(some 64), .mov (.t 12), none⟩,
  ⟨(some 65), .bin .add (.t 64) (.c (.int .i64 1)), none⟩,
  ⟨(some 12), .mov (.t 65), none⟩] none))
def b16_4 : IC := .seq (.seq (.region [⟨(some 54), .mov (.t 11), none⟩,
  ⟨(some 55), .faddr 0 (.t 10), none⟩,
  ⟨(some 56), .load none (.t 55), none⟩,
  ⟨(some 57), .bin .lss (.t 54) (.t 56), none⟩] none)
 (.cond (.t 57) (.skip)
 (.exit 4)))
 (.seq (.block 5 (.seq (.region [⟨(some 12), .mov (.c (.int .i64 0)), none⟩] none)
 (.block 6 (.loop b16_6))))
 (.region [⟨(some 58), .mov (.t 11), none⟩,
  ⟨(some 59), .bin .add (.t 58) (.c (.int .i64 1)), none⟩,
  ⟨(some 11), .mov (.t 59), none⟩] none))
-- pneumatic/pneumaticref10.Condense
def ic16 : IC := .seq (.region [⟨(some 1), .box (.t 0), none⟩,
  ⟨(some 2), .alloc [.int .i64 0, .nils], none⟩,
  ⟨(some 3), .mov (.c (.nils)), none⟩,
  ⟨(some 4), .mov (.c (.int .i64 0)), none⟩] none)
 (.seq (.seq (.region [⟨(some 15), .load (some 2) (.t 1), none⟩,
  ⟨(some 16), .call (.c (.fn 35 [] [])) [(.t 15)], none⟩,
  ⟨(some 5), .mov (.t 16), none⟩] none)
 (.seq (.region [⟨(some 17), .mov (.t 5), none⟩,
  ⟨(some 18), .bin .neq (.t 17) (.c (.int .i64 0)), none⟩] none)
 (.cond (.t 18) (.seq (.region [⟨(some 19), .build [.int .i64 0, .nils] [], none⟩,
  ⟨(some 20), .mov (.t 5), none⟩,
  ⟨none, .store 2 (.t 2) (.t 19), none⟩,
  ⟨(some 3), .mov (.c (.nils)), none⟩,
  ⟨(some 4), .mov (.t 20), none⟩] none)
 (.ret))
 (.skip))))
 (.seq (.region [⟨(some 21), .load (some 2) (.t 1), none⟩,
  ⟨(some 22), .call (.c (.fn 44 [] [])) [(.t 21)], none⟩,
  ⟨(some 6), .mov (.t 22), none⟩] none)
 (.seq (.region [⟨(some 23), .faddr 0 (.t 1), none⟩,
  ⟨(some 24), .load none (.t 23), none⟩,
  ⟨(some 25), .mkslice 1 8 [.int .i64 0] (.t 24) (.t 24), none⟩,
  ⟨(some 7), .mov (.t 25), none⟩] none)
 (.seq (.seq (.region [⟨(some 8), .mov (.c (.int .i64 0)), none⟩] none)
 (.block 0 (.loop b16_0)))
 (.seq (.region [⟨(some 51), .mov (.t 6), none⟩,
  ⟨(some 52), .len false (.t 51), none⟩,
  ⟨(some 53), .build [.int .i64 0, .nils] [(0, 1, (.t 52))], none⟩,
  ⟨(some 10), .alloc [.int .i64 0, .nils], none⟩,
  ⟨none, .store 2 (.t 10) (.t 53), none⟩] none)
 (.seq (.seq (.region [⟨(some 11), .mov (.c (.int .i64 0)), none⟩] none)
 (.block 4 (.loop b16_4)))
 (.seq (.region [⟨(some 114), .load (some 2) (.t 10), none⟩,
  ⟨(some 115), .mov (.t 7), none⟩,
  ⟨none, .store 2 (.t 2) (.t 114), none⟩,
  ⟨(some 3), .mov (.t 115), none⟩,
  ⟨(some 4), .mov (.c (.int .i64 0)), none⟩] none)
 (.ret))))))))
theorem fn16 : env0.fn 16 = some ⟨116, ic16, [.cell 2 (some 2), .t 3, .t 4]⟩ := by kernel_rfl
set_option maxHeartbeats 16000000 in
theorem zqw (n : Int) (es : List (Int × Int)) : PF Try.prog 16 [cG n es] (cndV n es) := by
 have ez : ∀ o : Nat, 0 + ((o : Nat) : Int).toNat * 1 = o := fun o => by simp
 have p35 := zne n es
 refine zb7 env0_ok fn16 [(0, .agg [.int .i64 n, .vs (cE es)])] (by show 1 ≤ 116; decide) rfl fun w0 N0 => ?_
 unfold ic16
 refine za6 (za0 rfl (zdh rfl rfl (zbm (za2 rfl (za2 rfl (za3 (za1 ?_)))))))
 refine zba [(some (1, 1), [.int .i64 0, .nils])] [(0, 0, [.int .i64 n, .vs (cE es)])] [(1, .vptr [.int .i64 n, .vs (cE es)]), (2, .mptr 0 0 0)] rfl (.cons rfl rfl .nil) (.cons rfl (.cons (.same rfl) (.cons (.same rfl) .nil)) .nil) (.cons rfl (.fptr rfl rfl) (.cons rfl (.mptr rfl) .nil)) ?_
 repeat (first | refine za6 ?_ | refine za0 rfl ?_ | refine zap rfl rfl rfl rfl ?_)
 refine zau rfl rfl p35 (fun h => Bool.noConfusion (show false = true from h)) ?_
 repeat (first | refine za6 ?_ | refine za0 rfl ?_ | refine za3 ?_ | refine za1 ?_ | refine za2 rfl ?_)
 refine zao rfl rfl rfl (fun h => ?_) fun h => ?_
 ·have h : ¬ zcj n es = 0 := by simpa using h
  rw [zka h]
  repeat (first | refine za6 ?_ | refine za0 rfl ?_ | refine za3 ?_ | refine za1 ?_ | refine zc5 rfl ?_ | refine zax ?_ | refine zam ?_ | refine za2 rfl ?_ | refine zbf rfl rfl rfl rfl rfl rfl rfl ?_ | refine zdo rfl rfl ?_)
  exact zav ⟨.inr rfl, _, rfl, rfl⟩
 have h : zcj n es = 0 := by simpa using h
 obtain ⟨m, E, rfl, rfl, hm, _, hE, hb⟩ := zf7 h
 rw [znf h]
 have p44 := zun m hm E (by omega) hb
 rw [← zpv hb] at p44
 have hrl := zfm E m m
 have hcp := fun v (hv : v < m) => zjd hb hv
 have hae := atF_end hb
 unfold cndN
 have hcl : ((List.range m).map (cpN E m)).length = m := by rw [List.length_map, List.length_range]
 have hcg : ∀ v, v < m → ((iL ((List.range m).map (cpN E m))).map fun z => ([.int .i64 z] : List AV))[((v : Nat) : Int).toNat]? = some [.int .i64 (cpN E m v : Nat)] := fun v hv => by
  rw [zjh (by rw [hcl]; exact hv), ← zni (by rw [hcl]; exact hv), List.getElem_map, List.getElem_range]
 have hcE : (cE (zaj E)).length = E.length := by rw [zbj]; exact List.length_map ..
 generalize hnn : (rps E m m).length = nn at *
 have hpl : (((List.range nn).map (ze7 E m m)).map fun p => ([vsI (iL p)] : List AV)).length = nn := by rw [List.length_map, List.length_map, List.length_range]
 have hpg : ∀ i, i < nn → (((List.range nn).map (ze7 E m m)).map fun p => ([vsI (iL p)] : List AV))[((i : Nat) : Int).toNat]? = some [vsI (iL (ze7 E m m i))] := fun i hi => by
  rw [Int.toNat_natCast, List.getElem?_map, List.getElem?_map, List.getElem?_range hi]
  rfl
 repeat (first | refine za6 ?_ | refine za0 rfl ?_ | refine za3 ?_ | refine za1 ?_ | refine zad ?_ | refine zbp rfl ?_ | refine zap rfl rfl rfl rfl ?_)
 refine zau rfl rfl p44 (fun h => Bool.noConfusion (show false = true from h)) ?_
 repeat (first | refine za6 ?_ | refine za0 rfl ?_ | refine za3 ?_ | refine za1 ?_ | refine za2 rfl ?_ | refine zaf rfl rfl ?_ | refine zae rfl rfl rfl ?_)
 refine zo4 rfl rfl ⟨Int.natCast_nonneg m, Int.le_refl _, by omega, by decide⟩ ?_
 repeat (first | refine za6 ?_ | refine za0 rfl ?_ | refine za3 ?_ | refine za1 ?_ | refine zab ?_ | refine za2 rfl ?_)
 refine zb6 (fun mm S => ∃ i hp ck, mm = nn - i ∧ i ≤ nn ∧ Am.look 0 hp = some (0, .cells [.int .i64 0, .nils]) ∧ Am.look 1 hp = some (1, .cells ((atF E m i 0).map (AV.int .i64))) ∧ S = st 116 [(1, .vptr [.int .i64 (m : Nat), .vs (cE (zaj E))]), (2, .mptr 0 0 0), (6, cLL ((List.range nn).map (ze7 E m m))), (7, .ms 1 1 1 0 m (some m)), (8, .int .i64 (i : Nat))] hp 2 ck) nn
  (za7 (.cons rfl (.cons rfl (.cons rfl (.cons rfl (.cons rfl .nil)))))) ⟨0, _, _, rfl, Nat.zero_le _, rfl, by rw [zs7, ← ziw]; rfl, rfl⟩ ?_
 rintro mm S ⟨i, hp, ck, rfl, hi, k0, k1, rfl⟩
 unfold b16_0
 repeat (first | refine za6 ?_ | refine za0 rfl ?_ | refine za2 rfl ?_ | refine zbh rfl rfl ?_)
 refine zao rfl rfl (by show some (AV.bool (decide (((i : Nat) : Int) < ((((List.range nn).map (ze7 E m m)).map fun p => ([vsI (iL p)] : List AV)).length : Nat)))) = _; rw [hpl]) (fun h3 => ?_) fun h3 => ?_
 ·have hlt : i < nn := Int.ofNat_lt.1 (of_decide_eq_true h3)
  have w1 : IntKind.wrap .i64 (((i : Nat) : Int) + 1) = ((i + 1 : Nat) : Int) := zag i (by omega)
  have hgi := hpg i hlt
  have hstep := fun k hk => atF_step (E := E) (m := m) (i := i) (k := k) hk
  have hnext := atF_next E m i
  have hal := atF_len E m i
  have hin : ∀ w ∈ ze7 E m m i, w < m := fun w hw => List.mem_range.1 (List.mem_filter.1 hw).1
  have hpl2 := zpw E m m i
  generalize ze7 E m m i = p at *
  repeat (first | refine za6 ?_ | refine za0 rfl ?_ | refine za3 ?_ | refine za1 ?_ | refine zab ?_ | refine zad ?_ | refine zc5 rfl ?_ | refine za2 rfl ?_)
  refine zb6 (fun mm S => ∃ j hp ck, mm = p.length - j ∧ j ≤ p.length ∧ Am.look 0 hp = some (0, .cells [.int .i64 0, .nils]) ∧ Am.look 1 hp = some (1, .cells ((atF E m i j).map (AV.int .i64))) ∧ S = st 116 [(1, .vptr [.int .i64 (m : Nat), .vs (cE (zaj E))]), (2, .mptr 0 0 0), (6, cLL ((List.range nn).map (ze7 E m m))), (7, .ms 1 1 1 0 m (some m)), (8, .int .i64 (i : Nat)), (9, .int .i64 (j : Nat))] hp 2 ck) p.length
   (za7 (.cons rfl (.cons rfl (.cons rfl (.cons rfl (.cons rfl (.cons rfl .nil))))))) ⟨0, _, _, rfl, Nat.zero_le _, k0, k1, rfl⟩ ?_
  rintro mm S ⟨j, hp, ck, rfl, hj, k0, k1, rfl⟩
  have hpv : ((iL p).map fun z => ([.int .i64 z] : List AV)).length = p.length := by rw [List.length_map, zd9]
  unfold b16_2
  repeat (first | refine za6 ?_ | refine za0 rfl ?_ | refine za2 rfl ?_ | refine zaf rfl rfl ?_ | refine zbh rfl rfl ?_ | refine zb0 rfl rfl (by omega) (by assumption) rfl ?_)
  refine zao rfl rfl (by show some (AV.bool (decide (((j : Nat) : Int) < (((iL p).map fun z => ([.int .i64 z] : List AV)).length : Nat)))) = _; rw [hpv]) (fun h4 => ?_) fun h4 => ?_
  ·have hlt2 : j < p.length := Int.ofNat_lt.1 (of_decide_eq_true h4)
   have w2 : IntKind.wrap .i64 (((j : Nat) : Int) + 1) = ((j + 1 : Nat) : Int) := zag j (by omega)
   have hgw := zjh hlt2
   rw [← zni hlt2] at hgw
   have hst := hstep j hlt2
   have hwm := hin _ (List.getElem_mem hlt2)
   generalize p[j] = w at *
   repeat (first | refine za6 ?_ | refine za0 rfl ?_ | refine za3 ?_ | refine za1 ?_ | refine zab ?_ | refine zad ?_ | refine zc5 rfl ?_ | refine za2 rfl ?_ | refine zaf rfl rfl ?_ | refine zb0 rfl rfl (by omega) (by assumption) rfl ?_ | refine zaz rfl rfl (by omega) (by omega) ?_)
   rw [ez]
   refine zbd (id := 1) (sp := 1) (off := w) rfl rfl rfl k1 (by rw [List.length_map, hal]; exact hwm) rfl ?_
   repeat (first | refine za0 rfl ?_ | refine za3 ?_ | refine za1 ?_ | refine zb2 ?_ | refine za2 rfl ?_ | refine zay (op := .add) rfl rfl rfl ?_)
   rw [w2]
   exact zah (show p.length - (j + 1) < p.length - j by omega) (za7 (.cons rfl (.cons rfl (.cons rfl (.cons rfl (.cons rfl (.cons rfl .nil))))))) ⟨j + 1, _, _, rfl, hlt2, by rw [za4, if_neg (by decide)]; exact k0, by rw [za4, if_pos rfl, ← List.map_set, hst], rfl⟩
  ·have hje : j = p.length := by
    have h5 : ¬ ((j : Nat) : Int) < ((p.length : Nat) : Int) := of_decide_eq_false h4
    omega
   subst hje
   rw [hnext] at k1
   repeat (first | refine za3 ?_ | refine za1 ?_ | refine zbp rfl ?_ | refine zb4 ?_ | refine zac ?_)
   refine zbx ?_
   repeat (first | refine za0 rfl ?_ | refine za3 ?_ | refine za1 ?_ | refine zb2 ?_ | refine zb3 ?_ | refine za2 rfl ?_ | refine zay (op := .add) rfl rfl rfl ?_)
   rw [w1]
   exact zah (show nn - (i + 1) < nn - i by omega) (za7 (.cons rfl (.cons rfl (.cons rfl (.cons rfl (.cons rfl .nil)))))) ⟨i + 1, _, _, rfl, hlt, k0, k1, rfl⟩
 ·have hie : i = nn := by
   have h4 : ¬ ((i : Nat) : Int) < ((nn : Nat) : Int) := of_decide_eq_false h3
   omega
  subst hie
  rw [hae] at k1
  repeat (first | refine za3 ?_ | refine za1 ?_ | refine zbp rfl ?_ | refine zb4 ?_ | refine zac ?_)
  refine zbx ?_
  repeat (first | refine za6 ?_ | refine za1 ?_ | refine zb3 ?_)
  refine zba [(some (0, 0), [.int .i64 0, .nils])] [(1, 1, (iL ((List.range m).map (cpN E m))).map (AV.int .i64))] [(1, .vptr [.int .i64 (m : Nat), .vs (cE (zaj E))]), (2, .mptr 0 0 0), (6, cLL ((List.range i).map (ze7 E m m))), (7, vsI (iL ((List.range m).map (cpN E m))))] rfl (.cons k1 (zcx _) .nil) (.cons k0 (.cons (.same rfl) (.cons (.same rfl) .nil)) .nil)
   (.cons rfl (.same rfl) (.cons rfl (.mptr rfl) (.cons rfl (.same rfl) (.cons rfl (.fms rfl (by rw [List.length_map, zd9, hcl]) (fun x hx => by obtain ⟨s, _, rfl⟩ := List.mem_map.1 hx; rfl) ⟨[], by rw [List.drop_zero, List.append_nil, ze1]⟩) .nil)))) ?_
  have hrow := fun a => nbP_succ (zgy E m E) a
  have hfb := fnd_big E m
  have hcs := zhv (zgy E m E) i
  have hcl2 := zh1 (zgy E m E) i
  have hnl := zeo (zgy E m E) i
  have hnP : ∀ a, nbP (zgy E m E) a i = nbr (zgy E m E) i a := fun a => rfl
  have hnPl : ∀ a b, (nbP (zgy E m E) a b).length ≤ b := fun a b => Nat.le_trans (List.length_filter_le ..) (by rw [List.length_range]; exact Nat.le_refl _)
  have hfs : ∀ a b j (hj : j < E.length), fndB E m a b (E.take (j + 1)) = (fndB E m a b (E.take j) || (cpN E m E[j].1 == a && cpN E m E[j].2 == b)) := fun a b j hj => by
   rw [List.take_add_one, List.getElem?_eq_getElem hj]
   unfold fndB
   rw [List.any_append]
   show (_ || ((cpN E m E[j].1 == a && cpN E m E[j].2 == b) || false)) = _
   rw [Bool.or_false]
  generalize zgy E m E = B at *
  refine za0 rfl ?_
  repeat (first | refine za6 ?_ | refine za0 rfl ?_ | refine za3 ?_ | refine za1 ?_ | refine zab ?_ | refine za2 rfl ?_ | refine zbf rfl rfl rfl rfl rfl rfl rfl ?_ | refine zbm ?_ | refine zbh rfl rfl ?_ | refine zdo rfl rfl ?_)
  rw [hpl]
  refine zb6 (fun mm S => ∃ a v hp nx ck, mm = i - a ∧ a ≤ i ∧ Rq (i : Nat) (zaj (zqu B i a)) v v hp nx ∧ S = st 116 [(1, .vptr [.int .i64 (m : Nat), .vs (cE (zaj E))]), (2, .mptr 0 0 0), (7, vsI (iL ((List.range m).map (cpN E m)))), (10, .mptr 1 1 0), (11, .int .i64 (a : Nat))] hp nx ck) i
   (za7 (.cons rfl (.cons rfl (.cons rfl (.cons rfl (.cons rfl .nil)))))) ⟨0, .nils, _, _, _, rfl, Nat.zero_le _, ⟨rfl, rfl, .inl ⟨rfl, rfl⟩, by decide⟩, rfl⟩ ?_
  rintro mm S ⟨a, v, hp, nx, ck, rfl, ha, hF, rfl⟩
  have hmul : a * i ≤ 256 * 256 := Nat.mul_le_mul (by omega) (by omega)
  have hcla := hcl2 a
  unfold b16_4
  repeat (first | refine za6 ?_ | refine za0 rfl ?_ | refine za2 rfl ?_ | refine zaw rfl ?_)
  refine zak (id := 1) (sp := 1) (off := 0) rfl hF.out hF.nx1 rfl ?_
  refine zao rfl rfl rfl (fun h3 => ?_) fun h3 => ?_
  ·have hlt : a < i := Int.ofNat_lt.1 (of_decide_eq_true h3)
   have w1 : IntKind.wrap .i64 (((a : Nat) : Int) + 1) = ((a + 1 : Nat) : Int) := zag a (by omega)
   repeat (first | refine za6 ?_ | refine za0 rfl ?_ | refine za3 ?_ | refine za1 ?_ | refine zab ?_ | refine zad ?_ | refine zc5 rfl ?_ | refine za2 rfl ?_)
   refine zb6 (fun mm S => ∃ b v hp nx ck, mm = i - b ∧ b ≤ i ∧ Rq (i : Nat) (zaj (zqu B i a ++ (nbP B a b).map fun w => (a, w))) v v hp nx ∧ S = st 116 [(1, .vptr [.int .i64 (m : Nat), .vs (cE (zaj E))]), (2, .mptr 0 0 0), (7, vsI (iL ((List.range m).map (cpN E m)))), (10, .mptr 1 1 0), (11, .int .i64 (a : Nat)), (12, .int .i64 (b : Nat))] hp nx ck) i
    (za7 (.cons rfl (.cons rfl (.cons rfl (.cons rfl (.cons rfl (.cons rfl .nil))))))) ⟨0, v, _, _, _, rfl, Nat.zero_le _, by rw [show nbP B a 0 = [] from rfl, List.map_nil, List.append_nil]; exact hF, rfl⟩ ?_
   rintro mm S ⟨b, v, hp, nx, ck, rfl, hb2, hF, rfl⟩
   have hnb := hnPl a b
   unfold b16_6
   repeat (first | refine za6 ?_ | refine za0 rfl ?_ | refine za2 rfl ?_ | refine zaw rfl ?_)
   refine zak (id := 1) (sp := 1) (off := 0) rfl hF.out hF.nx1 rfl ?_
   refine zao rfl rfl rfl (fun h4 => ?_) fun h4 => ?_
   ·have hltb : b < i := Int.ofNat_lt.1 (of_decide_eq_true h4)
    have w2 : IntKind.wrap .i64 (((b : Nat) : Int) + 1) = ((b + 1 : Nat) : Int) := zag b (by omega)
    have hrs := hrow a b
    rw [hfb a b] at hrs
    repeat (first | refine za6 ?_ | refine za0 rfl ?_ | refine za3 ?_ | refine za1 ?_ | refine zab ?_ | refine zad ?_ | refine zc5 rfl ?_ | refine za2 rfl ?_)
    refine zb6 (fun mm S => ∃ j, mm = E.length - j ∧ j ≤ E.length ∧ S = st 116 [(1, .vptr [.int .i64 (m : Nat), .vs (cE (zaj E))]), (2, .mptr 0 0 0), (7, vsI (iL ((List.range m).map (cpN E m)))), (10, .mptr 1 1 0), (11, .int .i64 (a : Nat)), (12, .int .i64 (b : Nat)), (13, .bool (fndB E m a b (E.take j))), (14, .int .i64 (j : Nat))] hp nx ck) E.length
     (za7 (.cons rfl (.cons rfl (.cons rfl (.cons rfl (.cons rfl (.cons rfl (.cons rfl (.cons rfl .nil))))))))) ⟨0, rfl, Nat.zero_le _, rfl⟩ ?_
    rintro mm S ⟨j, rfl, hj, rfl⟩
    unfold b16_8
    repeat (first | refine za6 ?_ | refine za0 rfl ?_ | refine za2 rfl ?_ | refine zaf rfl rfl ?_ | refine zae rfl rfl rfl ?_ | refine zbh rfl rfl ?_)
    refine zao rfl rfl (by show some (AV.bool (decide (((j : Nat) : Int) < ((cE (zaj E)).length : Nat)))) = _; rw [hcE]) (fun h5 => ?_) fun h5 => ?_
    ·have hlt2 : j < E.length := Int.ofNat_lt.1 (of_decide_eq_true h5)
     have w3 : IntKind.wrap .i64 (((j : Nat) : Int) + 1) = ((j + 1 : Nat) : Int) := zag j (by omega)
     have hg := zel hlt2
     obtain ⟨hx, hy⟩ := hb _ _ (List.getElem_mem hlt2 : (E[j].1, E[j].2) ∈ E)
     have hgx := hcg _ hx
     have hgy := hcg _ hy
     have hfj := hfs a b j hlt2
     generalize cpN E m E[j].1 = c at *
     generalize cpN E m E[j].2 = d at *
     generalize E[j].1 = x at *
     generalize E[j].2 = y at *
     cases hfb1 : fndB E m a b (E.take j) with
     | true =>
      rw [hfb1, Bool.true_or] at hfj
      repeat (first | refine za6 ?_ | refine za0 rfl ?_ | refine za3 ?_ | refine za1 ?_ | refine zb2 ?_ | refine zab ?_ | refine zad ?_ | refine zc5 rfl ?_ | refine zj7 rfl rfl ?_ | refine o_gt rfl ?_ | refine za2 rfl ?_ | refine zat rfl rfl ?_ | refine zay (op := .add) rfl rfl rfl ?_)
      rw [w3]
      exact zah (show E.length - (j + 1) < E.length - j by omega) (za7 (.cons rfl (.cons rfl (.cons rfl (.cons rfl (.cons rfl (.cons rfl (.cons rfl (.cons rfl .nil))))))))) ⟨j + 1, rfl, hlt2, by rw [hfj]⟩
     | false =>
      rw [hfb1, Bool.false_or] at hfj
      repeat (first | refine za6 ?_ | refine za0 rfl ?_ | refine za3 ?_ | refine za1 ?_ | refine zab ?_ | refine zad ?_ | refine zc5 rfl ?_ | refine zck rfl ?_ | refine za2 rfl ?_ | refine zaf rfl rfl ?_ | refine zae rfl rfl rfl ?_ | refine zb0 rfl rfl (by omega) (by assumption) rfl ?_)
      refine zao rfl rfl rfl (fun h6 => ?_) fun h6 => ?_
      ·have h6 : c = a := Int.ofNat_inj.1 (by simpa using h6)
       rw [show (c == a) = true from by rw [h6]; exact beq_self_eq_true _, Bool.true_and] at hfj
       repeat (first | refine zck rfl ?_ | refine za2 rfl ?_ | refine zaf rfl rfl ?_ | refine zae rfl rfl rfl ?_ | refine zb0 rfl rfl (by omega) (by assumption) rfl ?_)
       refine zao rfl rfl rfl (fun h7 => ?_) fun h7 => ?_
       ·have h7 : d = b := Int.ofNat_inj.1 (by simpa using h7)
        rw [show (d == b) = true from by rw [h7]; exact beq_self_eq_true _] at hfj
        repeat (first | refine za0 rfl ?_ | refine za3 ?_ | refine za1 ?_ | refine zb2 ?_ | refine zck rfl ?_ | refine za2 rfl ?_ | refine zat rfl rfl ?_ | refine zas rfl rfl ?_ | refine zay (op := .add) rfl rfl rfl ?_)
        rw [w3]
        exact zah (show E.length - (j + 1) < E.length - j by omega) (za7 (.cons rfl (.cons rfl (.cons rfl (.cons rfl (.cons rfl (.cons rfl (.cons rfl (.cons rfl .nil))))))))) ⟨j + 1, rfl, hlt2, by rw [hfj]⟩
       ·have h7 : ¬ d = b := fun e => (show ¬ ((d : Nat) : Int) = (b : Nat) by simpa using h7) (by rw [e])
        rw [show (d == b) = false from beq_eq_false_iff_ne.2 h7] at hfj
        repeat (first | refine za0 rfl ?_ | refine za3 ?_ | refine za1 ?_ | refine zb2 ?_ | refine zck rfl ?_ | refine za2 rfl ?_ | refine zat rfl rfl ?_ | refine zas rfl rfl ?_ | refine zay (op := .add) rfl rfl rfl ?_)
        rw [w3]
        exact zah (show E.length - (j + 1) < E.length - j by omega) (za7 (.cons rfl (.cons rfl (.cons rfl (.cons rfl (.cons rfl (.cons rfl (.cons rfl (.cons rfl .nil))))))))) ⟨j + 1, rfl, hlt2, by rw [hfj]⟩
      ·have h6 : ¬ c = a := fun e => (show ¬ ((c : Nat) : Int) = (a : Nat) by simpa using h6) (by rw [e])
       rw [show (c == a) = false from beq_eq_false_iff_ne.2 h6, Bool.false_and] at hfj
       repeat (first | refine za0 rfl ?_ | refine za3 ?_ | refine za1 ?_ | refine zb2 ?_ | refine zck rfl ?_ | refine zj7 rfl rfl ?_ | refine za2 rfl ?_ | refine zas rfl rfl ?_ | refine zay (op := .add) rfl rfl rfl ?_)
       rw [w3]
       exact zah (show E.length - (j + 1) < E.length - j by omega) (za7 (.cons rfl (.cons rfl (.cons rfl (.cons rfl (.cons rfl (.cons rfl (.cons rfl (.cons rfl .nil))))))))) ⟨j + 1, rfl, hlt2, by rw [hfj]⟩
    ·have hje : j = E.length := by
      have h6 : ¬ ((j : Nat) : Int) < ((E.length : Nat) : Int) := of_decide_eq_false h5
      omega
     subst hje
     rw [List.take_length]
     cases hfe : fndB E m a b E with
     | false =>
      rw [hfe, Bool.false_and, if_neg Bool.false_ne_true] at hrs
      repeat (first | refine za3 ?_ | refine za1 ?_ | refine zbp rfl ?_ | refine zb4 ?_ | refine zac ?_)
      refine zbx ?_
      repeat (first | refine za6 ?_ | refine za0 rfl ?_ | refine za3 ?_ | refine za1 ?_ | refine zb2 ?_ | refine zad ?_ | refine zbp rfl ?_ | refine zb3 ?_ | refine zj7 rfl rfl ?_ | refine za2 rfl ?_ | refine zas rfl rfl ?_ | refine zay (op := .add) rfl rfl rfl ?_)
      rw [w2]
      exact zah (show i - (b + 1) < i - b by omega) (za7 (.cons rfl (.cons rfl (.cons rfl (.cons rfl (.cons rfl (.cons rfl .nil))))))) ⟨b + 1, v, _, _, _, rfl, hltb, by rw [hrs]; exact hF, rfl⟩
     | true =>
      rw [hfe, Bool.true_and] at hrs
      repeat (first | refine za3 ?_ | refine za1 ?_ | refine zbp rfl ?_ | refine zb4 ?_ | refine zac ?_)
      refine zbx ?_
      repeat (first | refine za6 ?_ | refine za0 rfl ?_ | refine za1 ?_ | refine zb3 ?_ | refine zck rfl ?_ | refine za2 rfl ?_)
      refine zao rfl rfl rfl (fun h6 => ?_) fun h6 => ?_
      ·have h6 : ¬ a = b := fun e => (show ¬ ((a : Nat) : Int) = (b : Nat) by simpa using h6) (by rw [e])
       rw [show (a == b) = false from beq_eq_false_iff_ne.2 h6, if_pos (show (!false) = true from rfl)] at hrs
       repeat (first | refine za0 rfl ?_ | refine za3 ?_ | refine za1 ?_ | refine zc5 rfl ?_ | refine zaw rfl ?_ | refine zat rfl rfl ?_)
       refine zak (id := 1) (sp := 1) (off := 0 + 1) rfl hF.out hF.nx1 rfl ?_
       repeat (first | refine za2 rfl ?_ | refine zdo rfl rfl ?_ | refine zch rfl rfl ?_)
       refine zpr (x := (((a : Nat) : Int), ((b : Nat) : Int))) (hF.fresh _ (.cells [.int .i64 (a : Nat), .int .i64 (b : Nat)])) (by rw [zdm, List.length_append, List.length_map]; omega) rfl rfl zbe (by decide) fun w' hp' nx' ck' hF2 => ?_
       repeat (first | refine zaw rfl ?_)
       refine zbd (id := 1) (sp := 1) (off := 0 + 1) rfl rfl hF2.lst.cell.2 hF2.out (by simp) hF2.lst.cell.1 ?_
       repeat (first | refine za0 rfl ?_ | refine za3 ?_ | refine za1 ?_ | refine zb2 ?_ | refine za2 rfl ?_ | refine zay (op := .add) rfl rfl rfl ?_)
       rw [w2]
       exact zah (show i - (b + 1) < i - b by omega) (za7 (.cons rfl (.cons rfl (.cons rfl (.cons rfl (.cons rfl (.cons rfl .nil))))))) ⟨b + 1, w', _, _, _, rfl, hltb, by rw [hrs, List.map_append, ← List.append_assoc, zhp]; exact hF2.store w', rfl⟩
      ·have h6 : a = b := Int.ofNat_inj.1 (by simpa using h6)
       rw [show (a == b) = true from by rw [h6]; exact beq_self_eq_true _, if_neg (show ¬ (!true) = true from Bool.false_ne_true)] at hrs
       repeat (first | refine za0 rfl ?_ | refine za3 ?_ | refine za1 ?_ | refine zb2 ?_ | refine zad ?_ | refine zbp rfl ?_ | refine za2 rfl ?_ | refine zat rfl rfl ?_ | refine zay (op := .add) rfl rfl rfl ?_)
       rw [w2]
       exact zah (show i - (b + 1) < i - b by omega) (za7 (.cons rfl (.cons rfl (.cons rfl (.cons rfl (.cons rfl (.cons rfl .nil))))))) ⟨b + 1, v, _, _, _, rfl, hltb, by rw [hrs]; exact hF, rfl⟩
   ·have hbe : b = i := by
     have h5 : ¬ ((b : Nat) : Int) < ((i : Nat) : Int) := of_decide_eq_false h4
     omega
    subst hbe
    rw [hnP] at hF
    repeat (first | refine za3 ?_ | refine za1 ?_ | refine zbp rfl ?_ | refine zb4 ?_ | refine zac ?_)
    refine zbx ?_
    repeat (first | refine za0 rfl ?_ | refine za3 ?_ | refine za1 ?_ | refine zb2 ?_ | refine zb3 ?_ | refine za2 rfl ?_ | refine zay (op := .add) rfl rfl rfl ?_)
    rw [w1]
    exact zah (show b - (a + 1) < b - a by omega) (za7 (.cons rfl (.cons rfl (.cons rfl (.cons rfl (.cons rfl .nil)))))) ⟨a + 1, v, _, _, _, rfl, hlt, by rw [hcs]; exact hF, rfl⟩
  ·have hae : a = i := by
    have h4 : ¬ ((a : Nat) : Int) < ((i : Nat) : Int) := of_decide_eq_false h3
    omega
   subst hae
   repeat (first | refine za3 ?_ | refine za1 ?_ | refine zbp rfl ?_ | refine zb4 ?_ | refine zac ?_)
   refine zbx ?_
   repeat (first | refine za6 ?_ | refine za0 rfl ?_ | refine za1 ?_ | refine zb3 ?_)
   refine zl4 (id := 1) (sp := 1) (off := 0) rfl hF.out hF.nx1 rfl rfl ?_
   repeat (first | refine za2 rfl ?_)
   refine zbf (id := 0) (sp := 0) (off := 0) (v := .agg [.int .i64 (a : Nat), v]) (vs := [.int .i64 (a : Nat), v]) rfl rfl rfl rfl hF.res rfl (by rw [List.all_cons, List.all_cons, hF.lst.cell.1]; rfl) ?_
   repeat (first | refine za3 ?_ | refine za1 ?_ | refine zax ?_ | refine za2 rfl ?_)
   refine zav ⟨.inr rfl, _, zms ((zf9 2).trans rfl) (zke (sp := 0) (cs := [.int .i64 (a : Nat), v]) (by show Am.look 0 (zbo 0 _ hp) = _; rw [za4, if_pos rfl]; rfl) (show 0 < nx by have := hF.nx1; omega) rfl) ((zf9 3).trans rfl) ((zf9 4).trans rfl), ?_⟩
   have hv : Rv (zaj (zqu B a a)) v (zbo 0 (0, .cells [.int .i64 (a : Nat), v]) hp) nx := by
    rcases hF.lst with h2 | ⟨id, sp, e, hl, x, y⟩
    ·exact .inl h2
    ·exact .inr ⟨id, sp, e, by rw [za4, if_neg (by omega)]; exact hl, x, y⟩
   exact congrArg AV.tup (zvs (congrArg AV.agg (zfi rfl hv.view)) rfl rfl)
end Go.Proofs.Ytoagikifehmlpaa
namespace Go.Proofs.Ytoagikifehmlpaa
open Go Go.Am
def b17_0 : IC := .seq (.seq (.region [⟨(some 11), .mov (.t 5), none⟩,
  ⟨(some 12), .mov (.t 0), none⟩,
  ⟨(some 13), .len false (.t 12), none⟩,
  ⟨(some 14), .bin .lss (.t 11) (.t 13), none⟩] none)
 (.cond (.t 14) (.skip)
 (.exit 0)))
 (.seq (.block 1 (.seq (.region [⟨(some 17), .mov (.t 0), none⟩,
  ⟨(some 18), .mov (.t 5), none⟩,
  ⟨(some 19), .idxs 1 (.t 17) (.t 18), none⟩,
  ⟨(some 20), .load none (.t 19), none⟩,
  ⟨(some 21), .mov (.t 1), none⟩,
  ⟨(some 22), .mov (.t 5), none⟩,
  ⟨(some 23), .idxs 1 (.t 21) (.t 22), none⟩,
  ⟨(some 24), .load none (.t 23), none⟩,
  ⟨(some 25), .call (.c (.fn 19 [] [])) [(.t 20), (.t 24)], none⟩,
  ⟨(some 26), .un .not (.t 25), none⟩] (some [[], [], [0, 1], [2], [], [], [4, 5], [6], [3, 7], [8]]))
 (.cond (.t 26) (.seq (.region [⟨(some 4), .mov (.c (.bool false)), none⟩] none)
 (.ret))
 (.skip))))
 (.region [⟨(some 15), .mov (.t 5), none⟩,
  ⟨(some 16), .bin .add (.t 15) (.c (.int .i64 1)), none⟩,
  ⟨(some 5), .mov (.t 16), none⟩] none))
-- pneumatic/pneumaticref10.SameLists
def ic17 : IC := .seq (.region [⟨(some 4), .mov (.c (.bool false)), none⟩] none)
 (.seq (.seq (.region [⟨(some 6), .mov (.t 0), none⟩,
  ⟨(some 7), .len false (.t 6), none⟩,
  ⟨(some 8), .mov (.t 1), none⟩,
  ⟨(some 9), .len false (.t 8), none⟩,
  ⟨(some 10), .bin .neq (.t 7) (.t 9), none⟩] none)
 (.cond (.t 10) (.seq (.region [⟨(some 4), .mov (.c (.bool false)), none⟩] none)
 (.ret))
 (.skip)))
 (.seq (.seq (.region [⟨(some 5), .mov (.c (.int .i64 0)), none⟩] none)
 (.block 0 (.loop b17_0)))
 (.seq (.region [⟨(some 4), .mov (.c (.bool true)), none⟩] none)
 (.ret))))
theorem fn17 : env0.fn 17 = some ⟨27, ic17, [.t 4]⟩ := by kernel_rfl
theorem same17 (ps : List (List Nat)) (hp : ps.length ≤ 1000000) (hl : ∀ p ∈ ps, p.length ≤ 1000000) : PF Try.prog 17 [cLL ps, cLL ps] (.bool true) := by
 have hva : (ps.map fun p => ([vsI (iL p)] : List AV)).length = ps.length := List.length_map ..
 refine zb7 env0_ok fn17 [(0, cLL ps), (1, cLL ps)] (by show 2 ≤ 27; decide) rfl fun w0 N0 => ?_
 unfold ic17
 repeat (first | refine za6 ?_ | refine za0 rfl ?_ | refine za3 ?_ | refine za1 ?_ | refine za2 rfl ?_ | refine zbh rfl rfl ?_)
 refine zcv rfl rfl (by show some (AV.bool (!((((ps.map fun p => ([vsI (iL p)] : List AV)).length : Nat) : Int) == ((ps.map fun p => ([vsI (iL p)] : List AV)).length : Nat)))) = _; simp) ?_
 repeat (first | refine za6 ?_ | refine za0 rfl ?_ | refine za3 ?_ | refine za1 ?_ | refine zab ?_ | refine zad ?_ | refine zbp rfl ?_ | refine za2 rfl ?_)
 refine zb6 (fun mm S => ∃ i, mm = ps.length - i ∧ i ≤ ps.length ∧ S = st 27 [(0, cLL ps), (1, cLL ps), (5, .int .i64 (i : Nat))] [] 0 0) ps.length
  (za7 (.cons rfl (.cons rfl (.cons rfl .nil)))) ⟨0, rfl, Nat.zero_le _, rfl⟩ ?_
 rintro mm S ⟨i, rfl, hi, rfl⟩
 unfold b17_0
 repeat (first | refine za6 ?_ | refine za0 rfl ?_ | refine za2 rfl ?_ | refine zbh rfl rfl ?_)
 refine zao rfl rfl (by show some (AV.bool (decide (((i : Nat) : Int) < ((ps.map fun p => ([vsI (iL p)] : List AV)).length : Nat)))) = _; rw [hva]) (fun h3 => ?_) fun h3 => ?_
 ·have hlt : i < ps.length := Int.ofNat_lt.1 (of_decide_eq_true h3)
  have w1 : IntKind.wrap .i64 (((i : Nat) : Int) + 1) = ((i + 1 : Nat) : Int) := zag i (by omega)
  have hg : (ps.map fun p => ([vsI (iL p)] : List AV))[((i : Nat) : Int).toNat]? = some [vsI (iL ps[i])] := by
   rw [Int.toNat_natCast, List.getElem?_map, List.getElem?_eq_getElem hlt]
   rfl
  have p19 := same19 (iL ps[i]) (by rw [zd9]; exact hl _ (List.getElem_mem hlt))
  generalize iL ps[i] = p at *
  repeat (first | refine za6 ?_ | refine za3 ?_ | refine za1 ?_ | refine zab ?_ | refine zad ?_ | refine zc5 rfl ?_)
  refine zof env0_ok [(19, [vsI p, vsI p], .bool true)] (fun x hx => by
   obtain rfl := List.mem_singleton.1 hx
   exact p19) (fun f => Nat.beq f 19) rfl rfl rfl ?_
  repeat (first | refine za2 rfl ?_ | refine zaf rfl rfl ?_ | refine zb0 rfl rfl (by omega) (by assumption) rfl ?_)
  refine zau rfl rfl zex (fun h => Bool.noConfusion (show false = true from h)) ?_
  repeat (first | refine za0 rfl ?_ | refine za3 ?_ | refine za1 ?_ | refine zb2 ?_ | refine zad ?_ | refine zbp rfl ?_ | refine za2 rfl ?_ | refine zml rfl rfl ?_ | refine zay (op := .add) rfl rfl rfl ?_)
  rw [w1]
  exact zah (show ps.length - (i + 1) < ps.length - i by omega) (za7 (.cons rfl (.cons rfl (.cons rfl .nil)))) ⟨i + 1, rfl, hlt, rfl⟩
 ·repeat (first | refine za3 ?_ | refine za1 ?_ | refine zbp rfl ?_ | refine zb4 ?_ | refine zac ?_)
  refine zbx ?_
  repeat (first | refine za6 ?_ | refine za0 rfl ?_ | refine za3 ?_ | refine za1 ?_ | refine zax ?_ | refine zb3 ?_ | refine za2 rfl ?_)
  exact zav ⟨.inr rfl, _, rfl, rfl⟩
theorem cmsV_eq (n : Int) (es : List (Int × Int)) : ∃ (ps : List (List Nat)) (e : Int), cmsV n es = .tup [cLL ps, .int .i64 e] ∧ ps.length ≤ 1000000 ∧ ∀ p ∈ ps, p.length ≤ 1000000 := by
 by_cases hg : zcj n es = 0
 ·obtain ⟨m, E, rfl, rfl, hm, _, hE, hb⟩ := zf7 hg
  rw [zht hg]
  refine ⟨zup E m, 0, rfl, ?_, fun p hp => ?_⟩
  ·have := zfm E m m
   unfold zup
   rw [List.length_map]
   omega
  ·obtain ⟨r, _, rfl⟩ := List.mem_map.1 hp
   have := List.length_filter_le (fun v => zfa E m r v) (List.range m)
   rw [List.length_range] at this
   omega
 ·rw [zk9 hg]
  exact ⟨[], _, rfl, Nat.zero_le _, fun p h => absurd h List.not_mem_nil⟩
theorem cndV_eq (n : Int) (es : List (Int × Int)) : ∃ (n' : Int) (es' : List (Int × Int)) (l : List Int) (e : Int), cndV n es = .tup [cG n' es', vsI l, .int .i64 e] ∧ es'.length ≤ 1000000 ∧ l.length ≤ 1000000 := by
 by_cases hg : zcj n es = 0
 ·obtain ⟨m, E, rfl, rfl, hm, _, hE, hb⟩ := zf7 hg
  rw [znf hg]
  refine ⟨_, _, _, _, rfl, ?_, ?_⟩
  ·have h1 := zfm E m m
   have h2 := zh1 (zgy E m E) (rps E m m).length (rps E m m).length
   have h3 : (rps E m m).length * (rps E m m).length ≤ 256 * 256 := Nat.mul_le_mul (by omega) (by omega)
   rw [zdm]
   omega
  ·rw [zd9, List.length_map, List.length_range]
   omega
 ·rw [zka hg]
  exact ⟨_, _, [], _, rfl, Nat.zero_le _, Nat.zero_le _⟩
-- pneumatic/pneumaticlaw10.DigraphParts
def ic3 : IC := .seq (.region [⟨(some 1), .box (.t 0), none⟩,
  ⟨(some 2), .mov (.c (.bool false)), none⟩] none)
 (.seq (.seq (.region [⟨(some 13), .load (some 2) (.t 1), none⟩,
  ⟨(some 14), .call (.c (.fn 11 [] [])) [(.t 13)], none⟩,
  ⟨(some 15), .un .not (.t 14), none⟩] none)
 (.cond (.t 15) (.seq (.region [⟨(some 16), .call (.c (.fn 12 [] [])) [], none⟩,
  ⟨(some 2), .mov (.t 16), none⟩] none)
 (.ret))
 (.skip)))
 (.seq (.region [⟨(some 18), .load (some 2) (.t 1), none⟩,
  ⟨(some 19), .call (.c (.fn 13 [] [])) [(.t 18)], none⟩,
  ⟨(some 17), .mov (.t 19), none⟩,
  ⟨(some 20), .extract (.t 17) 0, none⟩,
  ⟨(some 21), .extract (.t 17) 1, none⟩,
  ⟨(some 3), .mov (.t 20), none⟩,
  ⟨(some 4), .mov (.t 21), none⟩] none)
 (.seq (.region [⟨(some 23), .load (some 2) (.t 1), none⟩,
  ⟨(some 24), .call (.c (.fn 14 [] [])) [(.t 23)], none⟩,
  ⟨(some 22), .mov (.t 24), none⟩,
  ⟨(some 25), .extract (.t 22) 0, none⟩,
  ⟨(some 26), .extract (.t 22) 1, none⟩,
  ⟨(some 5), .mov (.t 25), none⟩,
  ⟨(some 6), .mov (.t 26), none⟩] none)
 (.seq (.region [⟨(some 28), .load (some 2) (.t 1), none⟩,
  ⟨(some 29), .call (.c (.fn 15 [] [])) [(.t 28)], none⟩,
  ⟨(some 27), .mov (.t 29), none⟩,
  ⟨(some 30), .extract (.t 27) 0, none⟩,
  ⟨(some 31), .extract (.t 27) 1, none⟩,
  ⟨(some 32), .extract (.t 27) 2, none⟩,
  ⟨(some 7), .alloc [.int .i64 0, .nils], none⟩,
  ⟨none, .store 2 (.t 7) (.t 30), none⟩,
  ⟨(some 8), .mov (.t 31), none⟩,
  ⟨(some 9), .mov (.t 32), none⟩] none)
 (.seq (.region [⟨(some 34), .load (some 2) (.t 1), none⟩,
  ⟨(some 35), .call (.c (.fn 16 [] [])) [(.t 34)], none⟩,
  ⟨(some 33), .mov (.t 35), none⟩,
  ⟨(some 36), .extract (.t 33) 0, none⟩,
  ⟨(some 37), .extract (.t 33) 1, none⟩,
  ⟨(some 38), .extract (.t 33) 2, none⟩,
  ⟨(some 10), .alloc [.int .i64 0, .nils], none⟩,
  ⟨none, .store 2 (.t 10) (.t 36), none⟩,
  ⟨(some 11), .mov (.t 37), none⟩,
  ⟨(some 12), .mov (.t 38), none⟩] none)
 (.seq (.region [⟨(some 39), .call (.c (.fn 12 [] [])) [], none⟩,
  ⟨(some 40), .mov (.t 39), none⟩,
  ⟨(some 41), .mov (.t 3), some (40, true)⟩,
  ⟨(some 42), .mov (.t 5), some (40, true)⟩,
  ⟨(some 43), .call (.c (.fn 17 [] [])) [(.t 41), (.t 42)], some (40, true)⟩,
  ⟨(some 44), .pick (.t 40) (.t 43) (.c (.bool false)), none⟩,
  ⟨(some 45), .mov (.t 44), none⟩,
  ⟨(some 46), .mov (.t 4), some (45, true)⟩,
  ⟨(some 47), .mov (.t 6), some (45, true)⟩,
  ⟨(some 48), .bin .eql (.t 46) (.t 47), some (45, true)⟩,
  ⟨(some 49), .pick (.t 45) (.t 48) (.c (.bool false)), none⟩,
  ⟨(some 50), .mov (.t 49), none⟩,
  ⟨(some 51), .load (some 2) (.t 7), some (50, true)⟩,
  ⟨(some 52), .load (some 2) (.t 10), some (50, true)⟩,
  ⟨(some 53), .call (.c (.fn 18 [] [])) [(.t 51), (.t 52)], some (50, true)⟩,
  ⟨(some 54), .pick (.t 50) (.t 53) (.c (.bool false)), none⟩,
  ⟨(some 55), .mov (.t 54), none⟩,
  ⟨(some 56), .mov (.t 8), some (55, true)⟩,
  ⟨(some 57), .mov (.t 11), some (55, true)⟩,
  ⟨(some 58), .call (.c (.fn 19 [] [])) [(.t 56), (.t 57)], some (55, true)⟩,
  ⟨(some 59), .pick (.t 55) (.t 58) (.c (.bool false)), none⟩,
  ⟨(some 60), .mov (.t 59), none⟩,
  ⟨(some 61), .mov (.t 9), some (60, true)⟩,
  ⟨(some 62), .mov (.t 12), some (60, true)⟩,
  ⟨(some 63), .bin .eql (.t 61) (.t 62), some (60, true)⟩,
  ⟨(some 64), .pick (.t 60) (.t 63) (.c (.bool false)), none⟩,
  ⟨(some 2), .mov (.t 64), none⟩] none)
 (.ret)))))))
theorem fn3 : env0.fn 3 = some ⟨65, ic3, [.t 2]⟩ := by kernel_rfl
set_option maxRecDepth 100000 in
set_option maxHeartbeats 4000000 in
theorem law3 (n : Int) (es : List (Int × Int)) : PF Try.prog 3 [cG n es] (.bool true) := by
 have pF := few11 n es
 refine zb7 env0_ok fn3 [(0, .agg [.int .i64 n, .vs (cE es)])] (by show 1 ≤ 65; decide) rfl fun w0 N0 => ?_
 unfold ic3
 refine za6 (za0 rfl (zdh rfl rfl (za2 rfl (za3 (za1 ?_)))))
 refine zba [] [(0, 0, [.int .i64 n, .vs (cE es)])] [(1, .vptr [.int .i64 n, .vs (cE es)])] rfl (.cons rfl rfl .nil) .nil (.cons rfl (.fptr rfl rfl) .nil) ?_
 repeat (first | refine za6 ?_ | refine za0 rfl ?_ | refine zap rfl rfl rfl rfl ?_)
 refine zau rfl rfl pF (fun h => Bool.noConfusion (show false = true from h)) ?_
 cases hf : fewB n es with
 | false =>
  repeat (first | refine za6 ?_ | refine za0 rfl ?_ | refine za3 ?_ | refine za1 ?_ | refine zc5 rfl ?_ | refine zml rfl rfl ?_)
  refine zau rfl rfl zhk (fun h => Bool.noConfusion (show false = true from h)) ?_
  repeat (first | refine za3 ?_ | refine za1 ?_ | refine zax ?_ | refine zam ?_ | refine za2 rfl ?_)
  exact zav ⟨.inr rfl, _, rfl, rfl⟩
 | true =>
 obtain ⟨_, h8⟩ := zt4 hf
 have hn : zcj n es = 0 → n ≤ 12 := fun h => by have := (h8 h).1; omega
 have p13 := zem n es hn
 have p14 := zm1 n es
 have p15 := zqv n es hn
 have p16 := zqw n es
 obtain ⟨ps, e, ha, hpl, hql⟩ := cmsV_eq n es
 obtain ⟨n2, es2, at_, d, hc, hcl, hal⟩ := cndV_eq n es
 rw [ha] at p13 p14
 rw [hc] at p15 p16
 have p17 := same17 ps hpl hql
 have p18 := same18 n2 es2 hcl
 have p19 := same19 at_ hal
 repeat (first | refine za6 ?_ | refine za0 rfl ?_ | refine za3 ?_ | refine za1 ?_ | refine zad ?_ | refine zbp rfl ?_ | refine zap rfl rfl rfl rfl ?_ | refine zml rfl rfl ?_)
 refine zau rfl rfl p13 (fun h => Bool.noConfusion (show false = true from h)) ?_
 repeat (first | refine za6 ?_ | refine za0 rfl ?_ | refine za3 ?_ | refine za1 ?_ | refine za2 rfl ?_ | refine zap rfl rfl rfl rfl ?_ | refine zb9 rfl rfl ?_)
 refine zau rfl rfl p14 (fun h => Bool.noConfusion (show false = true from h)) ?_
 repeat (first | refine za6 ?_ | refine za0 rfl ?_ | refine za3 ?_ | refine za1 ?_ | refine za2 rfl ?_ | refine zap rfl rfl rfl rfl ?_ | refine zb9 rfl rfl ?_)
 refine zau rfl rfl p15 (fun h => Bool.noConfusion (show false = true from h)) ?_
 repeat (first | refine za6 ?_ | refine za0 rfl ?_ | refine za3 ?_ | refine za1 ?_ | refine za2 rfl ?_ | refine zap rfl rfl rfl rfl ?_ | refine zbf rfl rfl rfl rfl rfl rfl rfl ?_ | refine zbm ?_ | refine zb9 rfl rfl ?_)
 refine zau rfl rfl p16 (fun h => Bool.noConfusion (show false = true from h)) ?_
 repeat (first | refine za6 ?_ | refine za0 rfl ?_ | refine za3 ?_ | refine za1 ?_ | refine za2 rfl ?_ | refine zbf rfl rfl rfl rfl rfl rfl rfl ?_ | refine zbm ?_ | refine zb9 rfl rfl ?_)
 refine zau rfl rfl zhk (fun h => Bool.noConfusion (show false = true from h)) ?_
 repeat (first | refine zck rfl ?_ | refine za2 rfl ?_)
 refine zau rfl rfl p17 (fun h => Bool.noConfusion (show false = true from h)) ?_
 repeat (first | refine zck rfl ?_ | refine za2 rfl ?_ | refine zat rfl rfl ?_)
 refine ziq rfl rfl (by show some (AV.bool (e == e)) = _; simp) ?_
 repeat (first | refine zck rfl ?_ | refine za2 rfl ?_ | refine zap rfl rfl rfl rfl ?_ | refine zat rfl rfl ?_)
 refine zau rfl rfl p18 (fun h => Bool.noConfusion (show false = true from h)) ?_
 repeat (first | refine zck rfl ?_ | refine za2 rfl ?_ | refine zat rfl rfl ?_)
 refine zau rfl rfl p19 (fun h => Bool.noConfusion (show false = true from h)) ?_
 repeat (first | refine zck rfl ?_ | refine za2 rfl ?_ | refine zat rfl rfl ?_)
 refine ziq rfl rfl (by show some (AV.bool (d == d)) = _; simp) ?_
 repeat (first | refine za3 ?_ | refine za1 ?_ | refine zax ?_ | refine za2 rfl ?_ | refine zat rfl rfl ?_)
 exact zav ⟨.inr rfl, _, rfl, rfl⟩
end Go.Proofs.Ytoagikifehmlpaa
namespace Go.Proofs.Ytoagikifehmlpaa
open Go Go.Am Go.ChangeShapes Go.WideShapes Go.ChangeAt Go.RowKit
theorem own : ownKnob Try.prog.godebug = none := by kernel_rfl
theorem gok {W : World} : GOk (fun _ => True) W := fun _ hx => absurd hx List.not_mem_nil
theorem solid : zru Try.prog Try.prog.types.size := solid_of (by kernel_rfl)
end Go.Proofs.Ytoagikifehmlpaa
namespace Go.Proofs.Ytoagikifehmlpaa
open Go Go.Am Go.ChangeShapes Go.WideShapes Go.ChangeAt Go.RowKit Go.Deep
section
variable {H : Type} {enc : TypeId × Value → H} {w : World} {base : Nat} {spare : Nat → Bool} {held : Bool}
theorem rdN : Rd enc Try.prog w base spare held 3 (zja .i64) := rd_int Try.underlying3 (by kernel_rfl)
theorem rdE : Rd enc Try.prog w base spare held 48 (zc9 [zja .i64, zja .i64]) := by
 refine zmr Try.underlying48 rfl (by kernel_rfl) fun i f g e1 e2 => ?_
 match i, e1, e2 with
 | 0, e1, e2 => injection e1 with e1; injection e2 with e2; subst e1 e2; exact rdN
 | 1, e1, e2 => injection e1 with e1; injection e2 with e2; subst e1 e2; exact rdN
 | i + 2, e1, e2 => simp at e1
theorem rdL : Rd enc Try.prog w base spare held 22 (zjc (zc9 [zja .i64, zja .i64])) :=
 rd_slice Try.underlying22 (by kernel_rfl) (by rw [show Try.prog.cellsOf 48 = 2 from by kernel_rfl]; decide) rdE
theorem rdG : Rd enc Try.prog w base spare held 24 (zc9 [zja .i64, zjc (zc9 [zja .i64, zja .i64])]) := by
 refine zmr Try.underlying24 rfl (by kernel_rfl) fun i f g e1 e2 => ?_
 match i, e1, e2 with
 | 0, e1, e2 => injection e1 with e1; injection e2 with e2; subst e1 e2; exact rdN
 | 1, e1, e2 => injection e1 with e1; injection e2 with e2; subst e1 e2; exact rdL
 | i + 2, e1, e2 => simp at e1
def zp7 (d : DataW H) : List (Int × Int) := (zje ((zc2 d).tail.headD .nil)).map fun x => (zrl ((zc2 x).headD .nil), zrl ((zc2 x).tail.headD .nil))
theorem zqy {n : Nat} {cs : List Value} {d : DataW H} {p : List MemPlace} (h : DataW.trod enc Try.prog w base spare held n 48 cs = some (d, p)) : ∃ a b : DataW H, zc2 d = [a, b] := by
 obtain ⟨xs, n', _, hx, hlen, hxl, hall⟩ := DataW.trod_struct Try.underlying48 h
 simp only [Prod.mk.injEq] at hx
 obtain ⟨rfl, rfl⟩ := hx
 obtain ⟨x0, x1, rfl⟩ : ∃ a b, xs = [a, b] := by
  match xs, hxl with
  | [a, b], _ => exact ⟨a, b, rfl⟩
 exact ⟨x0.1, x1.1, rfl⟩
theorem shapeG {n : Nat} {cs : List Value} {d : DataW H} {p : List MemPlace} (h : DataW.trod enc Try.prog w base spare held n 24 cs = some (d, p)) :
  ∃ d0 d1 : DataW H, zc2 d = [d0, d1] ∧ ∀ x ∈ zje d1, ∃ a b : DataW H, zc2 x = [a, b] := by
 obtain ⟨xs, n', _, hx, hlen, hxl, hall⟩ := DataW.trod_struct Try.underlying24 h
 simp only [Prod.mk.injEq] at hx
 obtain ⟨rfl, rfl⟩ := hx
 obtain ⟨x0, x1, rfl⟩ : ∃ a b, xs = [a, b] := by
  match xs, hxl with
  | [a, b], _ => exact ⟨a, b, rfl⟩
 have h2 := hall 1 _ rfl
 have h2' : _ = some x1 := h2
 refine ⟨x0.1, x1.1, rfl, ?_⟩
 rcases Deep.open_slice Try.underlying22 h2' with ⟨_, hx⟩ | ⟨a, len, cap, m, n2, D, Pl, _, hb, hle, hm, hmm, hx, hel⟩
 ·subst hx
  exact fun y hy => absurd hy List.not_mem_nil
 ·subst hx
  have hlm : len ≤ m := by rw [hmm]; split <;> omega
  intro x hx
  have hx' : x ∈ (List.range len).map D := hx
  obtain ⟨i, hi, rfl⟩ := List.mem_map.1 hx'
  obtain ⟨cs', h1, h3⟩ := hel i (by have := List.mem_range.1 hi; omega)
  exact zqy h3
theorem zsh {d d0 d1 : DataW H} (h : zc2 d = [d0, d1]) (hr : ∀ x ∈ zje d1, ∃ a b : DataW H, zc2 x = [a, b]) : cG (zrl ((zc2 d).headD .nil)) (zp7 d) = aggA (zc9 [zja .i64, zjc (zc9 [zja .i64, zja .i64])]) d := by
 unfold cG zp7 aggA zc9
 rw [h]
 show AV.agg [.int .i64 (zrl d0), .vs (cE ((zje d1).map fun x => (zrl ((zc2 x).headD .nil), zrl ((zc2 x).tail.headD .nil))))] = AV.agg [.int .i64 (zrl d0), .vs ((zje d1).map (zc9 [zja .i64, zja .i64]))]
 congr 3
 unfold cE
 rw [List.map_map]
 refine congrArg AV.vs (List.map_congr_left fun x hx => ?_)
 obtain ⟨a, b, e⟩ := hr x hx
 unfold zc9
 show [AV.int .i64 (zrl ((zc2 x).headD .nil)), AV.int .i64 (zrl ((zc2 x).tail.headD .nil))] = _
 rw [e]
 rfl
end
end Go.Proofs.Ytoagikifehmlpaa
