/-
  REVERSED GRAPHS: Reverse on both sides; graphs that are the same.; PATHS: Path on both sides.; A path has the length of the distance: the law.; THE RANGE over the closed vertices, from the last one on.; THE NUMBERS OF THE COMPONENTS, in plain Lean.; THE COMPONENTS: components walked.; THE COMPONENTS AS LISTS, in plain Lean.; THE COMPONENTS: Components walked.; THE REFERENCE's COMPONENTS: Parts wal
-/
import Derived.Test.YtoagikifehmlpaaYX3
namespace Go.Proofs.Ytoagikifehmlpaa
open Go Go.Am
def revV (n : Int) (es : List (Int × Int)) : AV := if zcj n es = 0 then .tup [cG n (swE es), .int .i64 0] else .tup [cG 0 [], .int .i64 (zcj n es)]
theorem chk_len {n : Int} {es : List (Int × Int)} (h : zcj n es = 0) : es.length ≤ 4096 := by
 obtain ⟨m, E, _, _, _, h1, h2, _⟩ := zf7 h
 omega
-- pneumatic/digraph.Reverse
def ic29 : IC := .seq (.region [⟨(some 1), .box (.t 0), none⟩,
  ⟨(some 2), .alloc [.int .i64 0, .nils], none⟩,
  ⟨(some 3), .mov (.c (.int .i64 0)), none⟩] none)
 (.seq (.seq (.region [⟨(some 5), .load (some 2) (.t 1), none⟩,
  ⟨(some 6), .call (.c (.fn 34 [] [])) [(.t 5)], none⟩,
  ⟨(some 4), .mov (.t 6), none⟩] none)
 (.seq (.region [⟨(some 7), .mov (.t 4), none⟩,
  ⟨(some 8), .bin .neq (.t 7) (.c (.int .i64 0)), none⟩] none)
 (.cond (.t 8) (.seq (.region [⟨(some 9), .build [.int .i64 0, .nils] [], none⟩,
  ⟨(some 10), .mov (.t 4), none⟩,
  ⟨none, .store 2 (.t 2) (.t 9), none⟩,
  ⟨(some 3), .mov (.t 10), none⟩] none)
 (.ret))
 (.skip))))
 (.seq (.region [⟨(some 11), .load (some 2) (.t 1), none⟩,
  ⟨(some 12), .call (.c (.fn 47 [] [])) [(.t 11)], none⟩,
  ⟨none, .store 2 (.t 2) (.t 12), none⟩,
  ⟨(some 3), .mov (.c (.int .i64 0)), none⟩] none)
 (.ret)))
theorem fn29 : env0.fn 29 = some ⟨13, ic29, [.cell 2 (some 2), .t 3]⟩ := by kernel_rfl
set_option maxHeartbeats 1000000 in
theorem zmt (n : Int) (es : List (Int × Int)) : PF Try.prog 29 [cG n es] (revV n es) := by
 have p34 := zk8 n es
 refine zb7 env0_ok fn29 [(0, .agg [.int .i64 n, .vs (cE es)])] (by show 1 ≤ 13; decide) rfl fun w0 N0 => ?_
 unfold ic29 revV
 refine za6 (za0 rfl (zdh rfl rfl (zbm (za2 rfl (za3 (za1 ?_))))))
 refine zba [(some (1, 1), [.int .i64 0, .nils])] [(0, 0, [.int .i64 n, .vs (cE es)])] [(1, .vptr [.int .i64 n, .vs (cE es)]), (2, .mptr 0 0 0), (3, .int .i64 0)] rfl (.cons rfl rfl .nil) (.cons rfl (.cons (.same rfl) (.cons (.same rfl) .nil)) .nil) (.cons rfl (.fptr rfl rfl) (.cons rfl (.mptr rfl) (.cons rfl (.same rfl) .nil))) ?_
 repeat (first | refine za6 ?_ | refine za0 rfl ?_ | refine zap rfl rfl rfl rfl ?_)
 refine zau rfl rfl p34 (fun h => Bool.noConfusion (show false = true from h)) ?_
 repeat (first | refine za6 ?_ | refine za0 rfl ?_ | refine za3 ?_ | refine za1 ?_ | refine za2 rfl ?_)
 refine zao rfl rfl rfl (fun h => ?_) fun h => ?_
 ·have h : ¬ zcj n es = 0 := by simpa using h
  rw [if_neg h]
  repeat (first | refine za6 ?_ | refine za0 rfl ?_ | refine za3 ?_ | refine za1 ?_ | refine zc5 rfl ?_ | refine zax ?_ | refine zam ?_ | refine za2 rfl ?_ | refine zbf rfl rfl rfl rfl rfl rfl rfl ?_ | refine zdo rfl rfl ?_)
  exact zav ⟨.inr rfl, _, rfl, rfl⟩
 ·have h : zcj n es = 0 := by simpa using h
  have p47 := zjw n es (by have := chk_len h; omega)
  rw [if_pos h]
  repeat (first | refine za6 ?_ | refine za0 rfl ?_ | refine za3 ?_ | refine za1 ?_ | refine zad ?_ | refine zbp rfl ?_ | refine zap rfl rfl rfl rfl ?_)
  refine zau rfl rfl p47 (fun h => Bool.noConfusion (show false = true from h)) ?_
  repeat (first | refine za3 ?_ | refine za1 ?_ | refine zax ?_ | refine za2 rfl ?_ | refine zbf rfl rfl rfl rfl rfl rfl rfl ?_)
  exact zav ⟨.inr rfl, _, rfl, rfl⟩
def b18_0 : IC := .seq (.seq (.region [⟨(some 20), .mov (.t 5), none⟩,
  ⟨(some 21), .faddr 1 (.t 2), none⟩,
  ⟨(some 22), .load none (.t 21), none⟩,
  ⟨(some 23), .len false (.t 22), none⟩,
  ⟨(some 24), .bin .lss (.t 20) (.t 23), none⟩] none)
 (.cond (.t 24) (.skip)
 (.exit 0)))
 (.seq (.block 1 (.seq (.region [⟨(some 27), .faddr 1 (.t 2), none⟩,
  ⟨(some 28), .load none (.t 27), none⟩,
  ⟨(some 29), .mov (.t 5), none⟩,
  ⟨(some 30), .idxs 2 (.t 28) (.t 29), none⟩,
  ⟨(some 31), .load (some 2) (.t 30), none⟩,
  ⟨(some 32), .faddr 1 (.t 3), none⟩,
  ⟨(some 33), .load none (.t 32), none⟩,
  ⟨(some 34), .mov (.t 5), none⟩,
  ⟨(some 35), .idxs 2 (.t 33) (.t 34), none⟩,
  ⟨(some 36), .load (some 2) (.t 35), none⟩,
  ⟨(some 37), .eqs true [(0, .int), (1, .int)] (.t 31) (.t 36), none⟩] (some [[], [0], [], [1, 2], [3], [], [5], [], [6, 7], [8], [4, 9]]))
 (.cond (.t 37) (.seq (.region [⟨(some 4), .mov (.c (.bool false)), none⟩] none)
 (.ret))
 (.skip))))
 (.region [⟨(some 25), .mov (.t 5), none⟩,
  ⟨(some 26), .bin .add (.t 25) (.c (.int .i64 1)), none⟩,
  ⟨(some 5), .mov (.t 26), none⟩] none))
-- pneumatic/pneumaticref10.Same
def ic18 : IC := .seq (.region [⟨(some 2), .box (.t 0), none⟩,
  ⟨(some 3), .box (.t 1), none⟩,
  ⟨(some 4), .mov (.c (.bool false)), none⟩] none)
 (.seq (.seq (.region [⟨(some 6), .faddr 0 (.t 2), none⟩,
  ⟨(some 7), .load none (.t 6), none⟩,
  ⟨(some 8), .faddr 0 (.t 3), none⟩,
  ⟨(some 9), .load none (.t 8), none⟩,
  ⟨(some 10), .bin .neq (.t 7) (.t 9), none⟩,
  ⟨(some 11), .mov (.t 10), none⟩,
  ⟨(some 12), .faddr 1 (.t 2), some (11, false)⟩,
  ⟨(some 13), .load none (.t 12), some (11, false)⟩,
  ⟨(some 14), .len false (.t 13), some (11, false)⟩,
  ⟨(some 15), .faddr 1 (.t 3), some (11, false)⟩,
  ⟨(some 16), .load none (.t 15), some (11, false)⟩,
  ⟨(some 17), .len false (.t 16), some (11, false)⟩,
  ⟨(some 18), .bin .neq (.t 14) (.t 17), some (11, false)⟩,
  ⟨(some 19), .pick (.t 11) (.c (.bool true)) (.t 18), none⟩] none)
 (.cond (.t 19) (.seq (.region [⟨(some 4), .mov (.c (.bool false)), none⟩] none)
 (.ret))
 (.skip)))
 (.seq (.seq (.region [⟨(some 5), .mov (.c (.int .i64 0)), none⟩] none)
 (.block 0 (.loop b18_0)))
 (.seq (.region [⟨(some 4), .mov (.c (.bool true)), none⟩] none)
 (.ret))))
theorem fn18 : env0.fn 18 = some ⟨38, ic18, [.t 4]⟩ := by kernel_rfl
set_option maxHeartbeats 1000000 in
theorem same18 (n : Int) (es : List (Int × Int)) (he : es.length ≤ 1000000) : PF Try.prog 18 [cG n es, cG n es] (.bool true) := by
 have hcl := zbj es
 refine zb7 env0_ok fn18 [(0, .agg [.int .i64 n, .vs (cE es)]), (1, .agg [.int .i64 n, .vs (cE es)])] (by show 2 ≤ 38; decide) rfl fun w0 N0 => ?_
 unfold ic18
 refine za6 (za0 rfl (zdh rfl rfl (zdh rfl rfl (za2 rfl (za3 (za1 ?_))))))
 refine zba [] [(0, 0, [.int .i64 n, .vs (cE es)]), (1, 1, [.int .i64 n, .vs (cE es)])] [(2, .vptr [.int .i64 n, .vs (cE es)]), (3, .vptr [.int .i64 n, .vs (cE es)])] rfl (.cons rfl rfl (.cons rfl rfl .nil)) .nil (.cons rfl (.fptr rfl rfl) (.cons rfl (.fptr rfl rfl) .nil)) ?_
 repeat (first | refine za6 ?_ | refine za0 rfl ?_ | refine zaf rfl rfl ?_ | refine zae rfl rfl rfl ?_)
 refine zcv rfl rfl (by show some (AV.bool (!(n == n))) = _; simp) ?_
 repeat (first | refine zck rfl ?_ | refine za2 rfl ?_ | refine zaf rfl rfl ?_ | refine zae rfl rfl rfl ?_ | refine zbh rfl rfl ?_)
 refine zcv rfl rfl (by show some (AV.bool (!((((cE es).length : Nat) : Int) == ((cE es).length : Nat)))) = _; simp) ?_
 repeat (first | refine za6 ?_ | refine za0 rfl ?_ | refine za3 ?_ | refine za1 ?_ | refine zab ?_ | refine zad ?_ | refine zbp rfl ?_ | refine za2 rfl ?_ | refine zas rfl rfl ?_)
 refine zb6 (fun mm S => ∃ i, mm = es.length - i ∧ i ≤ es.length ∧ S = st 38 [(2, .vptr [.int .i64 n, .vs (cE es)]), (3, .vptr [.int .i64 n, .vs (cE es)]), (5, .int .i64 (i : Nat))] [] 0 1) es.length
  (za7 (.cons rfl (.cons rfl (.cons rfl .nil)))) ⟨0, rfl, Nat.zero_le _, rfl⟩ ?_
 rintro mm S ⟨i, rfl, hi, rfl⟩
 unfold b18_0
 repeat (first | refine za6 ?_ | refine za0 rfl ?_ | refine za2 rfl ?_ | refine zaf rfl rfl ?_ | refine zae rfl rfl rfl ?_ | refine zbh rfl rfl ?_)
 refine zao rfl rfl rfl (fun h3 => ?_) fun h3 => ?_
 ·have hlt : i < es.length := by
   have h4 : ((i : Nat) : Int) < (((cE es).length : Nat) : Int) := of_decide_eq_true h3
   omega
  have w1 : IntKind.wrap .i64 (((i : Nat) : Int) + 1) = ((i + 1 : Nat) : Int) := zag i (by omega)
  have hg := zlw hlt
  generalize es[i].1 = a at *
  generalize es[i].2 = b at *
  repeat (first | refine za6 ?_ | refine za3 ?_ | refine za1 ?_ | refine zab ?_ | refine zad ?_ | refine zc5 rfl ?_ | refine za2 rfl ?_ | refine zaf rfl rfl ?_ | refine zap rfl rfl rfl rfl ?_ | refine zae rfl rfl rfl ?_ | refine zgc env0_ok rfl rfl rfl ?_ | refine zb0 rfl rfl (by omega) (by assumption) rfl ?_)
  refine o_eqs (r := true) rfl rfl (by simp [zp9, eqK]) (fun h => Bool.noConfusion h) fun _ => ?_
  repeat (first | refine za0 rfl ?_ | refine za3 ?_ | refine za1 ?_ | refine zb2 ?_ | refine zad ?_ | refine zbp rfl ?_ | refine za2 rfl ?_ | refine zay (op := .add) rfl rfl rfl ?_)
  rw [w1]
  exact zah (show es.length - (i + 1) < es.length - i by omega) (za7 (.cons rfl (.cons rfl (.cons rfl .nil)))) ⟨i + 1, rfl, hlt, rfl⟩
 ·repeat (first | refine za3 ?_ | refine za1 ?_ | refine zbp rfl ?_ | refine zb4 ?_ | refine zac ?_)
  refine zbx ?_
  repeat (first | refine za6 ?_ | refine za0 rfl ?_ | refine za3 ?_ | refine za1 ?_ | refine zax ?_ | refine zb3 ?_ | refine za2 rfl ?_)
  exact zav ⟨.inr rfl, _, rfl, rfl⟩
end Go.Proofs.Ytoagikifehmlpaa
namespace Go.Proofs.Ytoagikifehmlpaa
open Go Go.Am
theorem zhe (E : List (Nat × Nat)) : swE (zaj E) = zaj (rvE E) := by
 unfold swE zaj rvE
 rw [List.map_map, List.map_map]
 rfl
end Go.Proofs.Ytoagikifehmlpaa
namespace Go.Proofs.Ytoagikifehmlpaa
open Go Go.Am
theorem zjh {l : List Nat} {i : Nat} (h : i < l.length) : ((iL l).map fun z => ([.int .i64 z] : List AV))[((i : Nat) : Int).toNat]? = some [.int .i64 (gN l i : Nat)] := by
 rw [zew (by unfold iL; rw [List.length_map]; exact h)]
 unfold iL
 rw [List.getElem_map, zni h]
end Go.Proofs.Ytoagikifehmlpaa
namespace Go.Proofs.Ytoagikifehmlpaa
open Go Go.Am
-- slices.Backward[[]int,int]
def ic63 : IC := .seq (.region [⟨(some 1), .box (.t 0), none⟩,
  ⟨(some 2), .mov (.c (.nilf)), none⟩] none)
 (.seq (.region [⟨(some 3), .mkfn 72 [] [(.t 1)], none⟩,
  ⟨(some 2), .mov (.t 3), none⟩] none)
 (.ret))
theorem fn63 : env0.fn 63 = some ⟨4, ic63, [.t 2]⟩ := by kernel_rfl
def b72_0 : IC := .seq (.seq (.region [⟨(some 7), .mov (.t 3), none⟩,
  ⟨(some 8), .bin .geq (.t 7) (.c (.int .i64 0)), none⟩] none)
 (.cond (.t 8) (.skip)
 (.exit 0)))
 (.seq (.block 1 (.seq (.region [⟨(some 11), .mov (.t 0), none⟩,
  ⟨(some 12), .mov (.t 3), none⟩,
  ⟨(some 13), .load none (.t 1), none⟩,
  ⟨(some 14), .mov (.t 3), none⟩,
  ⟨(some 15), .idxs 1 (.t 13) (.t 14), none⟩,
  ⟨(some 16), .load none (.t 15), none⟩,
  ⟨(some 17), .call (.t 11) [(.t 12), (.t 16)], none⟩,
  ⟨(some 18), .un .not (.t 17), none⟩] none)
 (.cond (.t 18) (.ret)
 (.skip))))
 (.region [⟨(some 9), .mov (.t 3), none⟩,
  ⟨(some 10), .bin .sub (.t 9) (.c (.int .i64 1)), none⟩,
  ⟨(some 3), .mov (.t 10), none⟩] none))
-- slices.Backward[[]int,int]$1
def ic72 : IC := .seq (.region [⟨(some 4), .load none (.t 1), none⟩,
  ⟨(some 5), .len false (.t 4), none⟩,
  ⟨(some 6), .bin .sub (.t 5) (.c (.int .i64 1)), none⟩,
  ⟨(some 3), .mov (.t 6), none⟩] none)
 (.block 0 (.loop b72_0))
theorem fn72 : env0.fn 72 = some ⟨19, ic72, []⟩ := by kernel_rfl
theorem zqn (C : List Int) : PF Try.prog 63 [vsI C] (.fn 72 [] [.vptr [vsI C]]) := by
 refine zb7 env0_ok fn63 [(0, vsI C)] (by show 1 ≤ 4; decide) rfl fun w0 N0 => ?_
 unfold ic63
 repeat (first | refine za6 ?_ | refine za0 rfl ?_ | refine za3 ?_ | refine za1 ?_ | refine zax ?_ | refine za2 rfl ?_ | refine zdh rfl rfl ?_ | refine zui rfl rfl ?_)
 exact zav ⟨.inr rfl, _, rfl, rfl⟩
structure QG (E : List (Nat × Nat)) (m s4 s5 : Nat) (ltm : List (Nat × AV)) (stt : LoopState) (g : List Int) (H : HS) : Prop where
 gm : GM E m g H.heap H.next
 h4 : Am.look 4 H.heap = some (s4, .deferred)
 h5 : Am.look 5 H.heap = some (s5, .loop stt none 80 (zfo ltm) [44, 45] zhn zhq (4, s4))
 nx : 5 < H.next
set_option maxHeartbeats 2000000 in
theorem range72 {w0 : World} {N0 m s4 s5 : Nat} {E : List (Nat × Nat)} {C : List Nat} {ltm : List (Nat × AV)} (hm : m ≤ 256) (hC : C.length = m)
  (hy : ∀ (k : Nat) (g : List Int) (H : HS), k < m → Grp E m C (k + 1) g → QG (rvE E) m s4 s5 ltm .ready g H →
   CT Try.prog w0 N0 (.yield 5 s5) [.int .i64 (k : Nat), .int .i64 (gN C k : Nat)] H fun v H' => v = .bool true ∧ ∃ g', Grp E m C k g' ∧ QG (rvE E) m s4 s5 ltm .ready g' H')
  (H : HS) (g : List Int) (hG : Grp E m C m g) (hQ : QG (rvE E) m s4 s5 ltm .ready g H) :
  FT Try.prog w0 N0 72 [.yield 5 s5, .vptr [vsI (iL C)]] H fun _ H' => ∃ g', Grp E m C 0 g' ∧ QG (rvE E) m s4 s5 ltm .ready g' H' := by
 have hvl : ((iL C).map fun z => ([.int .i64 z] : List AV)).length = m := by rw [List.length_map, zd9, hC]
 have w1 : IntKind.wrap .i64 (((m : Nat) : Int) - 1) = ((m : Nat) : Int) - 1 := zgq _ (by omega) (by omega)
 refine zn4 env0_ok fn72 [(0, .yield 5 s5), (1, .vptr [vsI (iL C)])] (by show 2 ≤ 19; decide) rfl ?_
 unfold ic72
 repeat (first | refine za6 ?_ | refine za0 rfl ?_ | refine za3 ?_ | refine za1 ?_ | refine zab ?_ | refine za2 rfl ?_ | refine zaf rfl rfl ?_ | refine zbh rfl rfl ?_ | refine zay (op := .sub) rfl rfl rfl ?_)
 rw [hvl, w1]
 refine zb6 (fun mm S => ∃ k g H', mm = k ∧ k ≤ m ∧ Grp E m C k g ∧ QG (rvE E) m s4 s5 ltm .ready g H' ∧ S = st 19 [(0, .yield 5 s5), (1, .vptr [vsI (iL C)]), (3, .int .i64 (((k : Nat) : Int) - 1))] H'.heap H'.next H'.clk) m
  (za7 (.cons rfl (.cons rfl (.cons rfl .nil)))) ⟨m, g, H, rfl, Nat.le_refl _, hG, hQ, rfl⟩ ?_
 rintro k S ⟨_, g, H', rfl, hk, hG, hQ, rfl⟩
 unfold b72_0
 repeat (first | refine za6 ?_ | refine za0 rfl ?_ | refine za2 rfl ?_)
 refine zao rfl rfl rfl (fun h4 => ?_) fun h4 => ?_
 ·obtain ⟨k, rfl⟩ : ∃ v, k = v + 1 := by
   have h5 : ((k : Nat) : Int) - 1 ≥ 0 := of_decide_eq_true h4
   exact ⟨k - 1, by omega⟩
  have e1 : (((k + 1 : Nat) : Int) - 1) = (k : Nat) := by omega
  have w2 : IntKind.wrap .i64 (((k : Nat) : Int) - 1) = ((k : Nat) : Int) - 1 := zgq _ (by omega) (by omega)
  have hgk := zjh (l := C) (i := k) (by omega)
  rw [e1]
  repeat (first | refine za6 ?_ | refine za0 rfl ?_ | refine za3 ?_ | refine za1 ?_ | refine zab ?_ | refine zad ?_ | refine zc5 rfl ?_ | refine za2 rfl ?_ | refine zaf rfl rfl ?_ | refine zb0 rfl rfl (by omega) (by assumption) rfl ?_)
  refine o_ct _ rfl rfl (hy k g H' (by omega) hG hQ) (fun _ _ _ _ hm => absurd hm List.not_mem_nil) fun v H2 hF => ?_
  obtain ⟨rfl, g', hG', hQ'⟩ := hF
  repeat (first | refine za0 rfl ?_ | refine za3 ?_ | refine za1 ?_ | refine zb2 ?_ | refine zad ?_ | refine zbp rfl ?_ | refine za2 rfl ?_ | refine zml rfl rfl ?_ | refine zay (op := .sub) rfl rfl rfl ?_)
  rw [w2]
  exact zah (Nat.lt_succ_self k) (za7 (.cons rfl (.cons rfl (.cons rfl .nil)))) ⟨k, g', H2, rfl, by omega, hG', hQ', rfl⟩
 ·obtain rfl : k = 0 := by
   have h5 : ¬ ((k : Nat) : Int) - 1 ≥ 0 := of_decide_eq_false h4
   omega
  repeat (first | refine za3 ?_ | refine za1 ?_ | refine zbp rfl ?_ | refine zb4 ?_ | refine zac ?_)
  refine zbx ?_
  repeat (first | refine zb3 ?_)
  exact zav ⟨.inl rfl, _, rfl, g, hG, hQ⟩
def l43 (C : List Nat) (gc : List AV) : List (Nat × AV) := [(43, .fn 72 [] [.vptr [vsI (iL C)]]), (1, .vptr gc), (10, .mptr 0 0 0), (11, .mptr 2 0 0)]
set_option maxHeartbeats 4000000 in
theorem yield43 {w0 : World} {N0 m s4 s5 : Nat} {E : List (Nat × Nat)} {C : List Nat} {gc : List AV} (hm : m ≤ 256) (hb : ∀ u v, (u, v) ∈ E → u < m ∧ v < m) (hC : Cls E m C) (ha : Com Try.prog zhn zna) (hbb : Com Try.prog zhq zuy)
  (k : Nat) (g : List Int) (H : HS) (hk : k < m) (hG : Grp E m C (k + 1) g) (hQ : QG (rvE E) m s4 s5 (l43 C gc) .ready g H) :
  CT Try.prog w0 N0 (.yield 5 s5) [.int .i64 (k : Nat), .int .i64 (gN C k : Nat)] H fun v H' => v = .bool true ∧ ∃ g', Grp E m C k g' ∧ QG (rvE E) m s4 s5 (l43 C gc) .ready g' H' := by
 obtain ⟨hp, nx, ck⟩ := H
 obtain ⟨gm, h4, h5, hnx⟩ := hQ
 have gm : GM (rvE E) m g hp nx := gm
 have h4 : Am.look 4 hp = _ := h4
 have h5 : Am.look 5 hp = _ := h5
 have hnx : 5 < nx := hnx
 have hkC : k < C.length := by rw [hC.len]; exact hk
 have hvm : gN C k < m := by rw [← zni hkC]; exact hC.lt _ (List.getElem_mem hkC)
 refine ct_yield (l0 := (45, .int .i64 (gN C k : Nat)) :: (44, .int .i64 (k : Nat)) :: l43 C gc) h5 ha hbb rfl (by decide) rfl ?_
 show Zm _ _ _ _ _ (st 80 _ hp nx ck) _ _
 unfold zna
 repeat (first | refine za6 ?_ | refine za0 rfl ?_ | refine za3 ?_ | refine za1 ?_ | refine za2 rfl ?_)
 refine zav ⟨rfl, _, rfl, ?_⟩
 show Zm _ _ _ _ _ (st 80 _ (zbo 5 _ hp) nx ck) _ _
 unfold zuy l43
 have gm2 : GM (rvE E) m g (zbo 5 (s5, .loop .busy none 80 (zfo (l43 C gc)) [44, 45] zhn zhq (4, s4)) hp) nx :=
  ⟨by rw [za4, if_neg (by decide)]; exact gm.h0, by rw [za4, if_neg (by decide)]; exact gm.h1, by rw [za4, if_neg (by decide)]; exact gm.h2, gm.nx⟩
 have hft := zsq m hm (rvE E) (zmu hb) w0 N0 k (unF (bsG g) + 1) g (gN C k) ⟨zbo 5 (s5, .loop .busy none 80 (zfo (l43 C gc)) [44, 45] zhn zhq (4, s4)) hp, nx, ck⟩ (Nat.lt_succ_self _) hG.len hvm gm2
 repeat (first | refine za0 rfl ?_ | refine zab ?_)
 refine zak (id := 2) (sp := 0) (off := 0) rfl gm2.h2 (by omega) rfl ?_
 repeat (first | refine za2 rfl ?_)
 refine o_ct _ rfl rfl (zsw hft) (fun _ _ _ _ hm => absurd hm List.not_mem_nil) fun v H2 hF => ?_
 obtain ⟨D, hV, hM, hK⟩ := hF
 have k4 := hK.look 4 (by decide) (by show 4 < nx; omega)
 have k5 := hK.look 5 (by decide) (by show 5 < nx; omega)
 have k4 : Am.look 4 H2.heap = some (s4, .deferred) := k4.trans (by show Am.look 4 (zbo 5 _ hp) = _; rw [za4, if_neg (by decide)]; exact h4)
 have k5 : Am.look 5 H2.heap = some (s5, .loop .busy none 80 (zfo (l43 C gc)) [44, 45] zhn zhq (4, s4)) := k5.trans (by show Am.look 5 (zbo 5 _ hp) = _; rw [za4, if_pos rfl])
 have hnx2 : 5 < H2.next := Nat.lt_of_lt_of_le (show 5 < nx from hnx) hK.next
 repeat (first | refine za3 ?_ | refine zb2 ?_)
 refine zav ⟨80, _, _, zhn, zhq, (4, s4), k5, none, rfl, rfl, zj0 (k : Int) g D, hG.step hb hC hk hV, ⟨?_, ?_, ?_, ?_⟩, ?_, ?_, hnx2⟩
 ·show Am.look 0 (zbo 5 _ H2.heap) = _
  rw [za4, if_neg (by decide)]; exact hM.h0
 ·show Am.look 1 (zbo 5 _ H2.heap) = _
  rw [za4, if_neg (by decide)]; exact hM.h1
 ·show Am.look 2 (zbo 5 _ H2.heap) = _
  rw [za4, if_neg (by decide)]; exact hM.h2
 ·exact hM.nx
 ·show Am.look 4 (zbo 5 _ H2.heap) = _
  rw [za4, if_neg (by decide)]; exact k4
 ·show Am.look 5 (zbo 5 _ H2.heap) = _
  rw [za4, if_pos rfl]
  rfl
end Go.Proofs.Ytoagikifehmlpaa
namespace Go.Proofs.Ytoagikifehmlpaa
open Go Go.Am
def kys (g : List Int) : Nat → List Int
 | 0 => []
 | i + 1 => if gI g i ∈ kys g i then kys g i else kys g i ++ [gI g i]
theorem zu1 (g : List Int) (i : Nat) : gI g i ∈ kys g (i + 1) := by
 rw [kys]
 split
 ·assumption
 ·simp
theorem zph {g : List Int} {x : Int} {i : Nat} (h : x ∈ kys g i) : x ∈ kys g (i + 1) ∧ (kys g (i + 1)).idxOf x = (kys g i).idxOf x := by
 rw [kys]
 split
 ·exact ⟨h, rfl⟩
 ·exact ⟨List.mem_append_left _ h, by rw [List.idxOf_append, if_pos h]⟩
theorem zu0 (g : List Int) : ∀ i, (kys g i).length ≤ i
 | 0 => Nat.le_refl _
 | i + 1 => by
  have := zu0 g i
  rw [kys]
  split
  ·omega
  ·rw [List.length_append, List.length_singleton]; omega
def zd8 : List Int → Nat → List (AV × AV)
 | [], _ => []
 | k :: ks, j => (.int .i64 k, .int .i64 (j : Nat)) :: zd8 ks (j + 1)
theorem zig : ∀ (ks : List Int) (j : Nat), (zd8 ks j).length = ks.length
 | [], _ => rfl
 | k :: ks, j => by rw [zd8, List.length_cons, List.length_cons, zig ks]
theorem znm (k : Int) : ∀ (ks : List Int) (j : Nat), zcn .int (.int .i64 k) (zd8 ks j) = some (if k ∈ ks then some (.int .i64 ((j + ks.idxOf k : Nat) : Int)) else none)
 | [], j => by rw [if_neg List.not_mem_nil]; rfl
 | x :: ks, j => by
  have ih := znm k ks (j + 1)
  by_cases e : k = x
  ·subst e
   rw [if_pos (List.mem_cons_self ..), List.idxOf_cons_self]
   show (match (if IntKind.i64 = IntKind.i64 then some (k == k) else none) with | some true => some (some (AV.int .i64 (j : Nat))) | some false => zcn .int (.int .i64 k) (zd8 ks (j + 1)) | none => none) = _
   rw [if_pos rfl, beq_self_eq_true]
   rfl
  ·have hm : k ∈ x :: ks ↔ k ∈ ks := ⟨fun h => (List.mem_cons.1 h).resolve_left e, List.mem_cons_of_mem _⟩
   show (match (if IntKind.i64 = IntKind.i64 then some (k == x) else none) with | some true => some (some (AV.int .i64 (j : Nat))) | some false => zcn .int (.int .i64 k) (zd8 ks (j + 1)) | none => none) = _
   rw [if_pos rfl, show (k == x) = false from beq_eq_false_iff_ne.2 e]
   show zcn .int (.int .i64 k) (zd8 ks (j + 1)) = _
   rw [ih]
   by_cases c : k ∈ ks
   ·rw [if_pos c, if_pos (hm.2 c), List.idxOf_cons, show (x == k) = false from beq_eq_false_iff_ne.2 fun h => e h.symm, cond_false]
    congr 3
    omega
   ·rw [if_neg c, if_neg fun h => c (hm.1 h)]
theorem zvi (k : Int) (v : AV) : ∀ (ks : List Int) (j : Nat), k ∉ ks → zdi .int (.int .i64 k) v (zd8 ks j) = some (zd8 ks j ++ [(.int .i64 k, v)])
 | [], j, _ => rfl
 | x :: ks, j, h => by
  have ih := zvi k v ks (j + 1) fun h2 => h (List.mem_cons_of_mem _ h2)
  have e : ¬ k = x := fun e => h (by rw [e]; exact List.mem_cons_self ..)
  show (match (if IntKind.i64 = IntKind.i64 then some (k == x) else none) with | some true => some ((AV.int .i64 k, v) :: zd8 ks (j + 1)) | some false => (zdi .int (.int .i64 k) v (zd8 ks (j + 1))).map ((AV.int .i64 x, AV.int .i64 (j : Nat)) :: ·) | none => none) = _
  rw [if_pos rfl, show (k == x) = false from beq_eq_false_iff_ne.2 e]
  show (zdi .int (.int .i64 k) v (zd8 ks (j + 1))).map _ = _
  rw [ih]
  rfl
theorem zjm : ∀ (ks : List Int) (j : Nat) (k : Int), zd8 (ks ++ [k]) j = zd8 ks j ++ [(.int .i64 k, .int .i64 ((j + ks.length : Nat) : Int))]
 | [], j, k => rfl
 | x :: ks, j, k => by
  rw [List.cons_append, zd8, zjm ks, zd8, List.length_cons, show j + 1 + ks.length = j + (ks.length + 1) by omega]
  rfl
def zfa (E : List (Nat × Nat)) (m x y : Nat) : Bool := decide (gI (zfp E m x m) y ≥ 0) && decide (gI (zfp E m y m) x ≥ 0)
theorem zdg {E : List (Nat × Nat)} {m x y : Nat} (hb : ∀ u v, (u, v) ∈ E → u < m ∧ v < m) (hx : x < m) (hy : y < m) : zfa E m x y = true ↔ Mut E x y := by
 unfold zfa Mut Rch
 rw [Bool.and_eq_true, decide_eq_true_eq, decide_eq_true_eq]
 exact and_congr (zpa hb hx) (zpa hb hy)
def rps (E : List (Nat × Nat)) (m i : Nat) : List Nat := (List.range i).filter fun v => (List.range v).all fun u => !zfa E m u v
theorem zq3 (E : List (Nat × Nat)) (m i : Nat) : rps E m (i + 1) = if ((List.range i).all fun u => !zfa E m u i) = true then rps E m i ++ [i] else rps E m i := by
 unfold rps
 rw [List.range_succ, List.filter_append, List.filter_cons]
 split
 ·rfl
 ·rw [List.filter_nil, List.append_nil]
def zrm (E : List (Nat × Nat)) (m v : Nat) : Nat := ((List.range m).find? fun u => zfa E m u v).getD 0
def cmpL (E : List (Nat × Nat)) (m : Nat) : List Int := (List.range m).map fun v => (((rps E m m).idxOf (zrm E m v) : Nat) : Int)
theorem zlb {E : List (Nat × Nat)} {m v : Nat} (hb : ∀ u v, (u, v) ∈ E → u < m ∧ v < m) (hv : v < m) : Mut E (zrm E m v) v ∧ zrm E m v ≤ v ∧ ∀ u, u < zrm E m v → ¬ Mut E u v := by
 have hself : zfa E m v v = true := (zdg hb hv hv).2 ⟨Rch.refl E v, Rch.refl E v⟩
 unfold zrm
 cases hf : (List.range m).find? fun u => zfa E m u v with
 | none => exact absurd hself (List.find?_eq_none.1 hf v (List.mem_range.2 hv))
 | some r =>
  obtain ⟨h1, h2, h3⟩ := List.find?_range_eq_some.1 hf
  rw [List.mem_range] at h2
  refine ⟨(zdg hb h2 hv).1 h1, Nat.le_of_not_lt fun hlt => ?_, fun u hu mu => ?_⟩
  ·have := h3 v hlt
   rw [hself] at this
   cases this
  ·have hu : u < r := hu
   have := h3 u hu
   rw [(zdg hb (by omega) hv).2 mu] at this
   cases this
theorem zer {E : List (Nat × Nat)} {m v : Nat} (hb : ∀ u v, (u, v) ∈ E → u < m ∧ v < m) {i : Nat} (hi : i ≤ m) : v ∈ rps E m i ↔ v < i ∧ ∀ u, u < v → ¬ Mut E u v := by
 unfold rps
 rw [List.mem_filter, List.mem_range, List.all_eq_true]
 constructor
 ·rintro ⟨h1, h2⟩
  refine ⟨h1, fun u hu mu => ?_⟩
  have := h2 u (List.mem_range.2 hu)
  rw [(zdg hb (by omega) (by omega)).2 mu] at this
  cases this
 ·rintro ⟨h1, h2⟩
  refine ⟨h1, fun u hu => ?_⟩
  rw [List.mem_range] at hu
  cases hc : zfa E m u v with
  | false => rfl
  | true => exact absurd ((zdg hb (by omega) (by omega)).1 hc) (h2 u hu)
theorem zhb {E : List (Nat × Nat)} {m v : Nat} (hb : ∀ u v, (u, v) ∈ E → u < m ∧ v < m) {i : Nat} (hi : i ≤ m) (hv : v < i) : zrm E m v ∈ rps E m i := by
 obtain ⟨h1, h2, h3⟩ := zlb hb (show v < m by omega)
 exact (zer hb hi).2 ⟨by omega, fun u hu mu => h3 u hu (mu.trans h1)⟩
theorem ztu {f : Nat → Int} {x : Nat} : ∀ {l : List Nat}, (∀ y ∈ l, f y = f x → y = x) → (l.map f).idxOf (f x) = l.idxOf x
 | [], _ => rfl
 | y :: l, h => by
  rw [List.map_cons, List.idxOf_cons, List.idxOf_cons, ztu fun z hz => h z (List.mem_cons_of_mem _ hz)]
  by_cases e : y = x
  ·rw [e, beq_self_eq_true, beq_self_eq_true]
  ·rw [show (f y == f x) = false from beq_eq_false_iff_ne.2 fun h2 => e (h y (List.mem_cons_self ..) h2), show (y == x) = false from beq_eq_false_iff_ne.2 e]
theorem zno {E : List (Nat × Nat)} {m : Nat} {C : List Nat} {g : List Int} (hC : Cls E m C) (h : Grp E m C 0 g) : ∀ v, v < m → 0 ≤ gI g v := fun v hv => by
 have hm := zop hC.nd hC.lt (Nat.le_of_eq hC.len.symm) v hv
 obtain ⟨i, h1, h2⟩ := List.mem_iff_getElem.1 hm
 have := h.done i (Nat.zero_le _) (by rw [hC.len] at h1; exact h1)
 rw [← zni h1, h2] at this
 exact this
theorem zu2 {E : List (Nat × Nat)} {m : Nat} {C : List Nat} {g : List Int} (hb : ∀ u v, (u, v) ∈ E → u < m ∧ v < m) (hC : Cls E m C) (h : Grp E m C 0 g) : ∀ i, i ≤ m → kys g i = (rps E m i).map (gI g)
 | 0, _ => rfl
 | i + 1, hi => by
  have ih := zu2 hb hC h i (by omega)
  have hall := zno hC h
  have hiff : gI g i ∈ kys g i ↔ ¬ ((List.range i).all fun u => !zfa E m u i) = true := by
   rw [ih, List.mem_map]
   constructor
   ·rintro ⟨u, hu, e⟩ ha
    have hu2 := (zer hb (by omega)).1 hu
    have mu := (h.same u i (hall u (by omega)) (hall i (by omega))).1 e
    have := List.all_eq_true.1 ha u (List.mem_range.2 hu2.1)
    rw [(zdg hb (by omega) (by omega)).2 mu] at this
    cases this
   ·intro ha
    have : ∃ u, u < i ∧ zfa E m u i = true := by
     refine Classical.byContradiction fun hc => ha (List.all_eq_true.2 fun u hu => ?_)
     cases hb2 : zfa E m u i with
     | false => rfl
     | true => exact absurd ⟨u, List.mem_range.1 hu, hb2⟩ hc
    obtain ⟨u, hu, hmu⟩ := this
    have mu := (zdg hb (by omega) (by omega)).1 hmu
    have r1 := (zlb hb (show u < m by omega))
    exact ⟨zrm E m u, zhb hb (by omega) hu, (h.same _ i (hall _ (by omega)) (hall i (by omega))).2 (r1.1.trans mu)⟩
  rw [kys, zq3]
  by_cases c : ((List.range i).all fun u => !zfa E m u i) = true
  ·rw [if_pos c, if_neg (fun h2 => hiff.1 h2 c), ih, List.map_append]
   rfl
  ·rw [if_neg c, if_pos (hiff.2 c), ih]
theorem cmp_eq {E : List (Nat × Nat)} {m : Nat} {C : List Nat} {g : List Int} (hb : ∀ u v, (u, v) ∈ E → u < m ∧ v < m) (hC : Cls E m C) (h : Grp E m C 0 g) : ((List.range m).map fun v => (((kys g m).idxOf (gI g v) : Nat) : Int)) = cmpL E m ∧ (kys g m).length = (rps E m m).length := by
 have e := zu2 hb hC h m (Nat.le_refl _)
 have hall := zno hC h
 refine ⟨?_, by rw [e, List.length_map]⟩
 unfold cmpL
 refine List.map_congr_left fun v hv => ?_
 rw [List.mem_range] at hv
 obtain ⟨r1, r2, r3⟩ := zlb hb hv
 have hg : gI g v = gI g (zrm E m v) := ((h.same _ _ (hall _ (by omega)) (hall v hv)).2 r1).symm
 rw [e, hg, ztu fun y hy e2 => ?_]
 have hy2 := (zer hb (Nat.le_refl m)).1 hy
 have mu := (h.same _ _ (hall y hy2.1) (hall _ (by omega))).1 e2
 have hr2 := (zer hb (Nat.le_refl m)).1 (zhb hb (Nat.le_refl m) hv)
 rcases Nat.lt_trichotomy y (zrm E m v) with c | c | c
 ·exact absurd mu (hr2.2 y c)
 ·exact c
 ·exact absurd mu.symm (hy2.2 _ c)
end Go.Proofs.Ytoagikifehmlpaa
namespace Go.Proofs.Ytoagikifehmlpaa
open Go Go.Am
section
variable {P : Program} {w0 : World} {N0 : Nat} {k : List Fr} {Q : Exit → AS → Prop} {pf : Kn} {ios : List Opr} {n nx ck : Nat} {mk : List (Nat × Nat)} {md : Md} {l : List (Nat × AV)} {hp : List (Nat × Nat × AObj)}
theorem zh8 {d : Nat} {kz : IntKind} {z : Int} {ok : Bool} {ma ka : Arg} {id sp : Nat} {es : List (AV × AV)} {kv : AV} {r : Option AV} (hm : zbg ma l = some (.mapv id sp)) (hk : zbg ka l = some kv) (hl : Am.look id hp = some (sp, .map es)) (hg : zcn .int kv es = some r)
  (go : Om P w0 N0 md pf ios (st n ((d, zkm ok (.int kz z) r) :: l) hp nx ck mk) k Q) (hx : Ops pf (st n l hp nx ck mk) (.mapget .int (.int kz z) ok ma ka) := by exact trivial) :
  Om P w0 N0 md pf (⟨some d, .mapget .int (.int kz z) ok ma ka, none⟩ :: ios) (st n l hp nx ck mk) k Q := by
 refine zez ?_ go hx
 simp only [iop, zb5, hm, hk, AS.mapget, show (st n l hp nx ck mk).heap = hp from rfl, hl, if_true, hg]
 rfl
theorem zpq {d : Nat} {ok : Bool} {ma ka : Arg} {id sp : Nat} {es : List (AV × AV)} {kv : AV} (hm : zbg ma l = some (.mapv id sp)) (hk : zbg ka l = some kv) (hl : Am.look id hp = some (sp, .map es))
  (go : Om P w0 N0 md pf ios (st n ((d, .int .i64 (es.length : Nat)) :: l) hp nx ck mk) k Q) (hx : Ops pf (st n l hp nx ck mk) (.mapget .int .top ok ma ka) := by exact trivial) :
  Om P w0 N0 md pf (⟨some d, .mapget .int .top ok ma ka, none⟩ :: ios) (st n l hp nx ck mk) k Q := by
 refine zez ?_ go hx
 simp only [iop, zb5, hm, hk, AS.mapget, show (st n l hp nx ck mk).heap = hp from rfl, hl, if_true]
 rfl
theorem o_mapset {ma ka va : Arg} {id sp : Nat} {es es' : List (AV × AV)} {kv v : AV} (hm : zbg ma l = some (.mapv id sp)) (hk : zbg ka l = some kv) (hv : zbg va l = some v) (hl : Am.look id hp = some (sp, .map es)) (hg : zdi .int kv v es = some es')
  (go : Om P w0 N0 md pf ios (st n l (zbo id (sp, .map es') hp) nx ck mk) k Q) (hx : Ops pf (st n l hp nx ck mk) (.mapset .int ma ka va) := by exact trivial) :
  Om P w0 N0 md pf (⟨none, .mapset .int ma ka va, none⟩ :: ios) (st n l hp nx ck mk) k Q := by
 refine o_op0 (v := .tup []) ?_ go hx
 simp only [iop, zb5, hm, hk, hv, AS.mapset, show (st n l hp nx ck mk).heap = hp from rfl, hl, if_true, hg]
 rfl
theorem o_mkmap {d : Nat} (go : Om P w0 N0 md pf ios (st n ((d, .mapv nx ck) :: l) ((nx, ck, .map []) :: hp) (nx + 1) (ck + 1) mk) k Q) (hx : Ops pf (st n l hp nx ck mk) .mkmap := by exact trivial) :
  Om P w0 N0 md pf (⟨some d, .mkmap, none⟩ :: ios) (st n l hp nx ck mk) k Q :=
 zez rfl go hx
end
theorem zv3 (m : Nat) : zei m [AV.bool false] = (List.replicate m false).map AV.bool := by
 induction m with
 | zero => rfl
 | succ m ih => rw [zei, ih, List.replicate_succ, List.map_cons]; rfl
theorem zmk : ∀ s : List Bool, hasM.hasML (s.map AV.bool) = false
 | [] => rfl
 | b :: s => by
  show (hasM (AV.bool b) || hasM.hasML (s.map AV.bool)) = false
  rw [zmk s]
  rfl
theorem noM_cN (E : List (Nat × Nat)) (m : Nat) : hasM (cN E m) = false := rfl
theorem noM1 (E : List (Nat × Nat)) (m : Nat) : hasM.hasML [cN E m] = false := rfl
def cmpV (E : List (Nat × Nat)) (m : Nat) : AV := .tup [vsI (cmpL E m), .int .i64 ((rps E m m).length : Nat)]
theorem z_cls {P : Program} {w0 : World} {N0 n nx ck : Nat} {k : List Fr} {Q : Exit → AS → Prop} {ic : IC} {l : List (Nat × AV)} {hp : List (Nat × Nat × AObj)} {a b qv : AV} {q : List Int} (h1 : zbu 1 l = some a) (ma : hasM a = false) (h5 : zbu 5 l = some b) (mb : hasM b = false) (h7 : zbu 7 l = some (.mptr 3 0 0)) (hc : Am.look 3 hp = some (0, .cells [qv])) (hG : Gv 3 q qv hp nx)
  (go : Zm P w0 N0 none ic (st n [(1, a), (5, b), (7, .mptr 0 0 0)] [(0, 0, .cells [vsI q])] 1 1) k Q) : Zm P w0 N0 none ic (st n l hp nx ck) k Q := by
 rcases hG with ⟨rfl, rfl⟩ | ⟨id, sp, rfl, hl, h3, _⟩
 ·exact zba [(some (3, 0), [vsI []])] [] [(1, a), (5, b), (7, .mptr 0 0 0)] rfl .nil (.cons hc (.cons .nilvs .nil) .nil) (.cons h1 (.same ma) (.cons h5 (.same mb) (.cons h7 (.mptr rfl) .nil))) go
 ·have hok : okW [id] [(some (3, 0), [vsI q])] = true := by
   show (!zl1 3 [id] && true) = true
   have : zl1 3 [id] = false := by
    cases hb : zl1 3 [id] with
    | false => rfl
    | true => have := List.mem_singleton.1 (zey.1 hb); omega
   rw [this]
   rfl
  have hfz : fzl id sp [(id, sp, q.map (AV.int .i64))] = some (q.map (AV.int .i64)) := by
   unfold fzl
   simp
  refine zba [(some (3, 0), [vsI q])] [(id, sp, q.map (AV.int .i64))] [(1, a), (5, b), (7, .mptr 0 0 0)] hok (.cons hl (zcx _) .nil) (.cons hc (.cons (.fms hfz (List.length_map ..) (fun x hx => by obtain ⟨s, _, rfl⟩ := List.mem_map.1 hx; rfl) ⟨[], ?_⟩) .nil) .nil) (.cons h1 (.same ma) (.cons h5 (.same mb) (.cons h7 (.mptr rfl) .nil))) go
  rw [List.drop_zero, List.append_nil]
  exact ze1 q
theorem zvu : ∀ m : Nat, unF (List.replicate m false) = m
 | 0 => rfl
 | m + 1 => by
  have := zvu m
  unfold unF at this ⊢
  rw [List.replicate_succ, List.filter_cons, if_pos (show (!false) = true from rfl), List.length_cons, this]
def lv43 (E : List (Nat × Nat)) (m : Nat) : zgd := [(some (1, 2), [.ms 1 0 1 0 m (some m)]), (some (0, 1), (List.replicate m false).map AV.bool), (some (3, 4), [.fn 60 [] [.mptr 0 0 0, .vptr [cN E m], .mptr 2 0 0, .mptr 3 0 0]]), (some (2, 3), [.nils])]
theorem fnR (E : List (Nat × Nat)) (m : Nat) : RenW (lv43 E m) [] (.fn 60 [] [.mptr 1 2 0, .vptr [cN E m], .mptr 3 4 0, .mptr 2 3 0]) (.fn 60 [] [.mptr 0 0 0, .vptr [cN E m], .mptr 2 0 0, .mptr 3 0 0]) :=
 .fn rfl rfl (fun i x y e _ => by simp at e) fun i x y e1 e2 => by
  match i, e1, e2 with
  | 0, e1, e2 =>
   obtain rfl := Option.some.inj e1
   obtain rfl := Option.some.inj e2
   exact .mptr rfl
  | 1, e1, e2 =>
   obtain rfl := Option.some.inj e1
   obtain rfl := Option.some.inj e2
   exact .same rfl
  | 2, e1, e2 =>
   obtain rfl := Option.some.inj e1
   obtain rfl := Option.some.inj e2
   exact .mptr rfl
  | 3, e1, e2 =>
   obtain rfl := Option.some.inj e1
   obtain rfl := Option.some.inj e2
   exact .mptr rfl
  | i + 4, e1, e2 => simp at e1
def lw43 (E : List (Nat × Nat)) (m : Nat) (C : List Nat) : zgd := [(some (3, 3), [.ms 1 0 1 0 m (some m)]), (some (2, 2), (List.replicate m (-1 : Int)).map (AV.int .i64)), (some (4, 4), [.fn 62 [] [.mptr 0 0 0, .vptr [cN (rvE E) m], .mptr 2 0 0]]), (some (0, 0), [vsI (iL C)])]
theorem fnS (E : List (Nat × Nat)) (m : Nat) (C : List Nat) : RenW (lw43 E m C) [] (.fn 62 [] [.mptr 3 3 0, .vptr [cN (rvE E) m], .mptr 4 4 0]) (.fn 62 [] [.mptr 0 0 0, .vptr [cN (rvE E) m], .mptr 2 0 0]) :=
 .fn rfl rfl (fun i x y e _ => by simp at e) fun i x y e1 e2 => by
  match i, e1, e2 with
  | 0, e1, e2 =>
   obtain rfl := Option.some.inj e1
   obtain rfl := Option.some.inj e2
   exact .mptr rfl
  | 1, e1, e2 =>
   obtain rfl := Option.some.inj e1
   obtain rfl := Option.some.inj e2
   exact .same rfl
  | 2, e1, e2 =>
   obtain rfl := Option.some.inj e1
   obtain rfl := Option.some.inj e2
   exact .mptr rfl
  | i + 3, e1, e2 => simp at e1
set_option maxHeartbeats 8000000 in
theorem zgt (m : Nat) (hm : m ≤ 12) (E : List (Nat × Nat)) (hE : E.length ≤ 4096) (hb : ∀ u v, (u, v) ∈ E → u < m ∧ v < m) : PF Try.prog 43 [cG (m : Nat) (zaj E)] (cmpV E m) := by
 have ez : ∀ o : Nat, 0 + ((o : Nat) : Int).toNat * 1 = o := fun o => by simp
 have p45 := zds m (by omega) E (by omega) hb
 have p47 := zjw (m : Nat) (zaj E) (by unfold zaj; rw [List.length_map]; omega)
 rw [zhe] at p47
 have p45r := zds m (by omega) (rvE E) (by rw [zvc]; omega) (zmu hb)
 have hlen : ((List.range m).map fun v => ([vN (nbr E m v)] : List AV)).length = m := by rw [List.length_map, List.length_range]
 refine zb7 env0_ok fn43 [(0, .agg [.int .i64 (m : Nat), .vs (cE (zaj E))])] (by show 1 ≤ 80; decide) rfl fun w0 N0 => ?_
 unfold ic43
 refine za6 (za0 rfl (zdh rfl rfl (za2 rfl (za2 rfl (za3 (za1 ?_))))))
 refine zba [] [(0, 0, [.int .i64 (m : Nat), .vs (cE (zaj E))])] (zf6 [.int .i64 (m : Nat), .vs (cE (zaj E))]) rfl (.cons rfl rfl .nil) .nil (.cons rfl (.fptr rfl rfl) .nil) ?_
 refine za6 (nets43 [.int .i64 (m : Nat), .vs (cE (zaj E))] (cN E m) (cG (m : Nat) (zaj (rvE E))) (cN (rvE E) m) rfl rfl rfl rfl rfl rfl rfl (noM_cN E m) (noM_cN (rvE E) m) (fun S => rfl) (fun S => rfl) p45 p47 p45r ?_)
 refine zba [] [(0, 0, [cN E m]), (1, 0, [cN (rvE E) m])] [(1, .vptr [.int .i64 (m : Nat), .vs (cE (zaj E))]), (4, .vptr [cN E m]), (5, .vptr [cN (rvE E) m])] rfl (.cons rfl (noM1 E m) (.cons rfl (noM1 (rvE E) m) .nil)) .nil (.cons rfl (.same rfl) (.cons rfl (.fptr rfl rfl) (.cons rfl (.fptr rfl rfl) .nil))) ?_
 repeat (first | refine za6 ?_ | refine za0 rfl ?_ | refine zaf rfl rfl ?_ | refine zae rfl rfl rfl ?_)
 refine zo4 rfl rfl ⟨Int.natCast_nonneg m, Int.le_refl _, by omega, by decide⟩ ?_
 repeat (first | refine za6 ?_ | refine za0 rfl ?_ | refine za3 ?_ | refine za1 ?_ | refine zab ?_ | refine za2 rfl ?_ | refine zaf rfl rfl ?_ | refine zbf rfl rfl rfl rfl rfl rfl rfl ?_ | refine zbm ?_ | refine zbh rfl rfl ?_ | refine zui rfl rfl ?_)
 refine zba (lv43 E m) [] [(1, .vptr [.int .i64 (m : Nat), .vs (cE (zaj E))]), (5, .vptr [cN (rvE E) m]), (7, .mptr 3 0 0), (8, .mptr 2 0 0), (28, cN E m), (29, .int .i64 (m : Nat)), (30, .int .i64 ((0 : Nat) : Int))] rfl .nil
  (.cons rfl (.cons (.ms rfl) .nil) (.cons rfl (by rw [Int.toNat_natCast, zv3]; exact .keep (zmk _)) (.cons rfl (.cons (fnR E m) .nil) (.cons rfl (.cons (.same rfl) .nil) .nil))))
  (.cons rfl (.same rfl) (.cons rfl (.same rfl) (.cons rfl (.mptr rfl) (.cons rfl (.mptr rfl) (.cons rfl (.same rfl) (.cons (by exact congrArg (fun z : Nat => some (AV.int .i64 (z : Nat))) hlen) (.same rfl) (.cons rfl (.same rfl) .nil))))))) ?_
 have hsn0 : unF (List.replicate m false) = m := zvu m
 refine zb6 (fun mm S => ∃ i C hp nx ck, mm = m - i ∧ i ≤ m ∧ Vis E m (List.replicate m false) (List.range i) C ∧ VM E m 0 0 0 0 (mrk (List.replicate m false) C) (iL C) hp nx ∧ S = st 80 [(1, .vptr [.int .i64 (m : Nat), .vs (cE (zaj E))]), (5, .vptr [cN (rvE E) m]), (7, .mptr 3 0 0), (8, .mptr 2 0 0), (29, .int .i64 (m : Nat)), (30, .int .i64 (i : Nat))] hp nx ck) m
  (za7 (.cons rfl (.cons rfl (.cons rfl (.cons rfl (.cons rfl (.cons rfl .nil))))))) ⟨0, [], _, _, _, rfl, Nat.zero_le _, .nil _, ⟨rfl, rfl, rfl, ⟨.nils, rfl, .inl ⟨rfl, rfl⟩⟩, by show 3 < 4; decide⟩, rfl⟩ ?_
 rintro mm S ⟨i, C, hp, nx, ck, rfl, hi, hV, hM, rfl⟩
 have hnx := hM.nx
 have hvu := zw1 hb hV (List.length_replicate ..) fun y hy => by rw [List.mem_range] at hy; omega
 unfold b43_0
 repeat (first | refine za6 ?_ | refine za0 rfl ?_)
 refine zao rfl rfl rfl (fun h3 => ?_) fun h3 => ?_
 ·have hlt : i < m := Int.ofNat_lt.1 (of_decide_eq_true h3)
  have w1 : IntKind.wrap .i64 (((i : Nat) : Int) + 1) = ((i + 1 : Nat) : Int) := zag i (by omega)
  have hft := visit60 m (by omega) E hb w0 N0 0 0 0 0 (unF (mrk (List.replicate m false) C) + 1) (mrk (List.replicate m false) C) (iL C) i ⟨hp, nx, ck⟩ (Nat.lt_succ_self _) (by rw [zim, List.length_replicate]) hlt (by rw [zd9]; omega) hM
  repeat (first | refine za6 ?_ | refine za0 rfl ?_ | refine za3 ?_ | refine za1 ?_ | refine zab ?_ | refine zad ?_ | refine zc5 rfl ?_ | refine za2 rfl ?_)
  refine zak (id := 2) (sp := 0) (off := 0) rfl hM.hw (by omega) rfl ?_
  repeat (first | refine za2 rfl ?_)
  refine o_ct _ rfl rfl (zsw hft) (fun _ _ _ _ hm => absurd hm List.not_mem_nil) fun r H' hF => ?_
  obtain ⟨D2, hV2, hM2⟩ := hF
  obtain ⟨hp', nx', ck'⟩ := H'
  show Om _ _ _ _ _ _ (st 80 _ hp' nx' ck') _ _
  have hV3 : Vis E m (List.replicate m false) (List.range (i + 1)) (C ++ D2) := by rw [List.range_succ]; exact hV.snoc hV2
  repeat (first | refine za0 rfl ?_ | refine za3 ?_ | refine za1 ?_ | refine zb2 ?_ | refine za2 rfl ?_ | refine zay (op := .add) rfl rfl rfl ?_)
  rw [w1]
  refine zah (show m - (i + 1) < m - i by omega) (za7 (.cons rfl (.cons rfl (.cons rfl (.cons rfl (.cons rfl (.cons rfl .nil))))))) ⟨i + 1, C ++ D2, _, _, _, rfl, hlt, hV3, ?_, rfl⟩
  rw [zo3, iL_app]
  exact hM2
 ·have hie : i = m := by
   have h4 : ¬ ((i : Nat) : Int) < ((m : Nat) : Int) := of_decide_eq_false h3
   omega
  subst hie
  have hC := cls_ok hb hV
  obtain ⟨qv, hc, hG⟩ := hM.hc
  repeat (first | refine za6 ?_ | refine za3 ?_ | refine za1 ?_ | refine zbp rfl ?_ | refine zb4 ?_ | refine zac ?_)
  refine zbx ?_
  repeat (first | refine za6 ?_ | refine za1 ?_ | refine zb3 ?_)
  refine z_cls rfl rfl rfl rfl rfl hc hG ?_
  refine za0 rfl ?_
  repeat (first | refine zaf rfl rfl ?_ | refine zae rfl rfl rfl ?_ | refine zch rfl rfl ?_)
  refine o_own rfl rfl (repeat61 hm) (ze0 _) ?_
  repeat (first | refine za6 ?_ | refine za3 ?_ | refine za1 ?_ | refine zbf rfl rfl rfl rfl rfl rfl rfl ?_ | refine zbm ?_)
  refine za0 rfl ?_
  repeat (first | refine za6 ?_ | refine za3 ?_ | refine za1 ?_ | refine zbm ?_)
  refine za0 rfl ?_
  repeat (first | refine za6 ?_ | refine za3 ?_ | refine za1 ?_ | refine zbf rfl rfl rfl rfl rfl rfl rfl ?_ | refine zui rfl rfl ?_)
  refine zba (lw43 E i C) [] [(1, .vptr [.int .i64 (i : Nat), .vs (cE (zaj E))]), (7, .mptr 3 0 0), (10, .mptr 0 0 0), (11, .mptr 2 0 0)] rfl .nil
   (.cons rfl (.cons (.ms rfl) .nil) (.cons rfl (.keep (zcx _)) (.cons rfl (.cons (fnS E i C) .nil) (.cons rfl (.cons (.same rfl) .nil) .nil))))
   (.cons rfl (.same rfl) (.cons rfl (.mptr rfl) (.cons rfl (.mptr rfl) (.cons rfl (.mptr rfl) .nil)))) ?_
  have p63 := zqn (iL C)
  refine za0 rfl ?_
  repeat (first | refine zaf rfl rfl ?_)
  refine zau rfl rfl p63 (fun h => Bool.noConfusion (show false = true from h)) ?_
  repeat (first | refine za3 ?_ | refine za1 ?_ | refine zab ?_)
  refine zog (za7 (l' := l43 C [.int .i64 (i : Nat), .vs (cE (zaj E))]) (.cons rfl (.cons rfl (.cons rfl (.cons rfl .nil))))) ?_
  refine z_range (.inl rfl) rfl fun ha hbb => (range72 (show i ≤ 256 by omega) hC.len (fun k g H hk hG hQ => yield43 (show i ≤ 256 by omega) hb hC ha hbb k g H hk hG hQ) ⟨_, _, _⟩ (List.replicate i (-1)) Grp.start ⟨⟨rfl, rfl, rfl, by show 2 < 6; decide⟩, rfl, rfl, by show 5 < 6; decide⟩).mono fun v H2 hF => ?_
  obtain ⟨g, hG, gm, h4, h5, hnx⟩ := hF
  refine ⟨_, _, .normal, _, _, _, _, _, _, h5, by simp, rfl, fun z hz => ?_, ?_⟩
  ·obtain rfl := List.mem_singleton.1 hz
   show Am.look 4 (zca 5 H2.heap) = _
   rw [zbb, if_neg (by decide)]
   exact h4
  ·have hall := zno hC hG
   obtain ⟨hce, hcl⟩ := cmp_eq hb hC hG
   have hgl := hG.len
   have hkl := zu0 g
   repeat (first | refine za6 ?_ | refine za1 ?_ | refine zb2 ?_)
   refine zq (q := 1) rfl [(some (0, 0), [.ms 1 0 1 0 i (some i)]), (some (1, 0), g.map (AV.int .i64))] [] [(10, .mptr 0 0 0)] rfl .nil
    (.cons (by show Am.look 0 (zca 5 H2.heap) = _; rw [zbb, if_neg (by decide)]; exact gm.h0) (.cons (.ms rfl) .nil) (.cons (by show Am.look 1 (zca 5 H2.heap) = _; rw [zbb, if_neg (by decide)]; exact gm.h1) (.keep (zcx _)) .nil)) (.cons rfl (.mptr rfl) .nil) ?_
   refine za0 rfl ?_
   refine o_mkmap ?_
   repeat (first | refine za6 ?_ | refine za0 rfl ?_ | refine za3 ?_ | refine za1 ?_ | refine zab ?_ | refine za2 rfl ?_ | refine zaf rfl rfl ?_ | refine zbh rfl rfl ?_)
   refine zb6 (fun mm S => ∃ j o hp, mm = i - j ∧ j ≤ i ∧ o.length = i ∧ (∀ v, v < i → gI o v = if v < j then (((kys g j).idxOf (gI g v) : Nat) : Int) else gI g v) ∧ (∀ v, v < j → gI g v ∈ kys g j) ∧ Am.look 0 hp = some (0, .cells [.ms 1 0 1 0 i (some i)]) ∧ Am.look 1 hp = some (0, .cells (o.map (AV.int .i64))) ∧ Am.look 3 hp = some (1, .map (zd8 (kys g j) 0)) ∧ S = st 80 [(10, .mptr 0 0 0), (14, .mapv 3 1), (51, .ms 1 0 1 0 i (some i)), (52, .int .i64 (i : Nat)), (53, .int .i64 (j : Nat))] hp 4 2 (zn3 2 1)) i
    (za7 (.cons rfl (.cons rfl (.cons rfl (.cons rfl (.cons rfl .nil)))))) ⟨0, g, _, rfl, Nat.zero_le _, hgl, fun v _ => by rw [if_neg (Nat.not_lt_zero v)], fun v h => absurd h (Nat.not_lt_zero v), rfl, rfl, rfl, rfl⟩ ?_
   rintro mm S ⟨j, o, hp, rfl, hj, hol, hov, hkv, k0, k1, k3, rfl⟩
   unfold b43_4
   repeat (first | refine za6 ?_ | refine za0 rfl ?_)
   refine zao rfl rfl rfl (fun h6 => ?_) fun h6 => ?_
   ·have hlt : j < i := Int.ofNat_lt.1 (of_decide_eq_true h6)
    have w1 : IntKind.wrap .i64 (((j : Nat) : Int) + 1) = ((j + 1 : Nat) : Int) := zag j (by omega)
    have hoj : gI o j = gI g j := by rw [hov j hlt, if_neg (Nat.lt_irrefl j)]
    have hgk := znm (gI g j) (kys g j) 0
    have hgk2 := znm (gI g j) (kys g (j + 1)) 0
    rw [if_pos (zu1 g j), Nat.zero_add] at hgk2
    have hnl : (o.set j (((kys g (j + 1)).idxOf (gI g j) : Nat) : Int)).length = i := by rw [List.length_set]; exact hol
    have hnk : ∀ v, v < j + 1 → gI g v ∈ kys g (j + 1) := fun v hv => by
     by_cases e : v = j
     ·rw [e]; exact zu1 g j
     ·exact (zph (hkv v (by omega))).1
    have hno : ∀ v, v < i → gI (o.set j (((kys g (j + 1)).idxOf (gI g j) : Nat) : Int)) v = if v < j + 1 then (((kys g (j + 1)).idxOf (gI g v) : Nat) : Int) else gI g v := fun v hv => by
     rw [ze2 (by omega)]
     by_cases e : j = v
     ·rw [if_pos e, if_pos (by omega), e]
     ·rw [if_neg e, hov v hv]
      by_cases c : v < j
      ·rw [if_pos c, if_pos (by omega), (zph (hkv v c)).2]
      ·rw [if_neg c, if_neg (by omega)]
    repeat (first | refine za6 ?_ | refine za0 rfl ?_ | refine za3 ?_ | refine za1 ?_ | refine zab ?_ | refine zad ?_ | refine zc5 rfl ?_ | refine za2 rfl ?_ | refine zaz rfl rfl (by omega) (by omega) ?_)
    rw [ez]
    refine zak (id := 1) (sp := 0) (off := j) rfl k1 (by decide) (zpc (by omega)) ?_
    rw [hoj]
    repeat (first | refine za6 ?_ | refine za0 rfl ?_ | refine za3 ?_ | refine za1 ?_ | refine za2 rfl ?_)
    by_cases c : gI g j ∈ kys g j
    ·rw [if_pos c] at hgk
     have hks : kys g (j + 1) = kys g j := by rw [kys, if_pos c]
     have k3' : Am.look 3 hp = some (1, .map (zd8 (kys g (j + 1)) 0)) := by rw [hks]; exact k3
     refine zh8 rfl rfl k3 hgk ?_
     repeat (first | refine za6 ?_ | refine za0 rfl ?_ | refine za3 ?_ | refine za1 ?_ | refine zad ?_ | refine zbp rfl ?_ | refine za2 rfl ?_ | refine zml rfl rfl ?_ | refine zb9 rfl rfl ?_)
     refine zak (id := 0) (sp := 0) (off := 0) rfl k0 (by decide) rfl ?_
     repeat (first | refine za2 rfl ?_)
     refine zh8 rfl rfl k3' hgk2 ?_
     repeat (first | refine zaz rfl rfl (by omega) (by omega) ?_)
     rw [ez]
     refine zbd (id := 1) (sp := 0) (off := j) rfl rfl rfl k1 (by simp; omega) rfl ?_
     repeat (first | refine za0 rfl ?_ | refine za3 ?_ | refine za1 ?_ | refine zb2 ?_ | refine za2 rfl ?_ | refine zay (op := .add) rfl rfl rfl ?_)
     rw [w1]
     exact zah (show i - (j + 1) < i - j by omega) (za7 (.cons rfl (.cons rfl (.cons rfl (.cons rfl (.cons rfl .nil)))))) ⟨j + 1, _, _, rfl, hlt, hnl, hno, hnk, by rw [za4, if_neg (by decide)]; exact k0, by rw [za4, if_pos rfl, List.map_set]; rfl, by rw [za4, if_neg (by decide)]; exact k3', rfl⟩
    ·rw [if_neg c] at hgk
     have hks : kys g (j + 1) = kys g j ++ [gI g j] := by rw [kys, if_neg c]
     refine zh8 rfl rfl k3 hgk ?_
     repeat (first | refine za6 ?_ | refine za0 rfl ?_ | refine za3 ?_ | refine za1 ?_ | refine zc5 rfl ?_ | refine za2 rfl ?_ | refine zml rfl rfl ?_ | refine zb9 rfl rfl ?_)
     refine zpq rfl rfl k3 ?_
     refine o_mapset rfl rfl rfl k3 (zvi _ _ _ _ c) ?_
     rw [zig, show zd8 (kys g j) 0 ++ [(AV.int .i64 (gI g j), AV.int .i64 (((kys g j).length : Nat) : Int))] = zd8 (kys g (j + 1)) 0 from by rw [hks, zjm, Nat.zero_add]]
     have k0' : Am.look 0 (zbo 3 (1, AObj.map (zd8 (kys g (j + 1)) 0)) hp) = some (0, .cells [.ms 1 0 1 0 i (some i)]) := by rw [za4, if_neg (by decide)]; exact k0
     have k1' : Am.look 1 (zbo 3 (1, AObj.map (zd8 (kys g (j + 1)) 0)) hp) = some (0, .cells (o.map (AV.int .i64))) := by rw [za4, if_neg (by decide)]; exact k1
     have k3' : Am.look 3 (zbo 3 (1, AObj.map (zd8 (kys g (j + 1)) 0)) hp) = some (1, .map (zd8 (kys g (j + 1)) 0)) := by rw [za4, if_pos rfl]
     repeat (first | refine za0 rfl ?_ | refine za3 ?_ | refine za1 ?_)
     refine zak (id := 0) (sp := 0) (off := 0) rfl k0' (by decide) rfl ?_
     repeat (first | refine za2 rfl ?_)
     refine zh8 rfl rfl k3' hgk2 ?_
     repeat (first | refine zaz rfl rfl (by omega) (by omega) ?_)
     rw [ez]
     refine zbd (id := 1) (sp := 0) (off := j) rfl rfl rfl k1' (by simp; omega) rfl ?_
     repeat (first | refine za0 rfl ?_ | refine za3 ?_ | refine za1 ?_ | refine zb2 ?_ | refine za2 rfl ?_ | refine zay (op := .add) rfl rfl rfl ?_)
     rw [w1]
     exact zah (show i - (j + 1) < i - j by omega) (za7 (.cons rfl (.cons rfl (.cons rfl (.cons rfl (.cons rfl .nil)))))) ⟨j + 1, _, _, rfl, hlt, hnl, hno, hnk, by rw [za4, if_neg (by decide)]; exact k0', by rw [za4, if_pos rfl, List.map_set]; rfl, by rw [za4, if_neg (by decide)]; exact k3', rfl⟩
   ·have hie : j = i := by
     have h4 : ¬ ((j : Nat) : Int) < ((i : Nat) : Int) := of_decide_eq_false h6
     omega
    subst hie
    have ho : o = cmpL E j := by
     rw [← hce]
     refine List.ext_getElem (by rw [List.length_map, List.length_range]; exact hol) fun v h1 h2 => ?_
     rw [List.getElem_map, List.getElem_range]
     have := hov v (by omega)
     rw [if_pos (by omega)] at this
     rw [gI_at h1, this]
    subst ho
    repeat (first | refine za6 ?_ | refine za3 ?_ | refine za1 ?_ | refine zbp rfl ?_ | refine zb4 ?_ | refine zac ?_)
    refine zbx ?_
    repeat (first | refine za6 ?_ | refine za0 rfl ?_ | refine za1 ?_ | refine zb3 ?_)
    refine zak (id := 0) (sp := 0) (off := 0) rfl k0 (by decide) rfl ?_
    repeat (first | refine za2 rfl ?_)
    refine zpq rfl rfl k3 ?_
    repeat (first | refine za3 ?_ | refine za1 ?_ | refine zax ?_ | refine za2 rfl ?_)
    refine zav ⟨.inr rfl, _, rfl, ?_⟩
    refine congrArg AV.tup (zfi (zct _ hol ?_) (show AV.int .i64 (((zd8 (kys g j) 0).length : Nat) : Int) = _ by rw [zig, hcl]))
    show Am.look 1 (zca 2 hp) = _
    rw [zbb, if_neg (by decide)]
    exact k1
end Go.Proofs.Ytoagikifehmlpaa
namespace Go.Proofs.Ytoagikifehmlpaa
open Go Go.Am
def cpN (E : List (Nat × Nat)) (m v : Nat) : Nat := (rps E m m).idxOf (zrm E m v)
def zup (E : List (Nat × Nat)) (m : Nat) : List (List Nat) := (rps E m m).map fun r => (List.range m).filter fun v => zfa E m r v
def cLL (ps : List (List Nat)) : AV := .vs (ps.map fun p => [vsI (iL p)])
theorem zsm (E : List (Nat × Nat)) (m : Nat) : cmpL E m = iL ((List.range m).map (cpN E m)) := by
 unfold cmpL iL cpN
 rw [List.map_map]
 rfl
theorem zjd {E : List (Nat × Nat)} {m v : Nat} (hb : ∀ u v, (u, v) ∈ E → u < m ∧ v < m) (hv : v < m) : cpN E m v < (rps E m m).length := zgu (zhb hb (Nat.le_refl m) hv)
theorem zv8 (E : List (Nat × Nat)) (m i : Nat) : (rps E m i).Nodup := List.Pairwise.filter _ List.nodup_range
theorem rps_one {E : List (Nat × Nat)} {m r s : Nat} (hb : ∀ u v, (u, v) ∈ E → u < m ∧ v < m) (hr : r ∈ rps E m m) (hs : s ∈ rps E m m) (mu : Mut E r s) : r = s := by
 have hr2 := (zer hb (Nat.le_refl m)).1 hr
 have hs2 := (zer hb (Nat.le_refl m)).1 hs
 rcases Nat.lt_trichotomy r s with c | c | c
 ·exact absurd mu (hs2.2 r c)
 ·exact c
 ·exact absurd mu.symm (hr2.2 s c)
theorem cp_mut {E : List (Nat × Nat)} {m k v : Nat} (hb : ∀ u v, (u, v) ∈ E → u < m ∧ v < m) (hv : v < m) (hk : k < (rps E m m).length) : (cpN E m v == k) = zfa E m (rps E m m)[k] v := by
 have hm := List.getElem_mem hk
 have hlt := ((zer hb (Nat.le_refl m)).1 hm).1
 have hro := zhb hb (Nat.le_refl m) hv
 obtain ⟨h1, _, _⟩ := zlb hb hv
 rw [Bool.eq_iff_iff, beq_iff_eq, zdg hb hlt hv]
 unfold cpN
 constructor
 ·intro e
  have h2 := List.getElem_idxOf (zgu hro)
  have : (rps E m m)[k] = zrm E m v := by
   rw [← h2]
   congr 1
   exact e.symm
  rw [this]
  exact h1
 ·intro mu
  have : zrm E m v = (rps E m m)[k] := (rps_one hb hm hro (mu.trans h1.symm)).symm
  rw [this]
  exact (zv8 E m m).idxOf_getElem k hk
def ze7 (E : List (Nat × Nat)) (m i k : Nat) : List Nat := (List.range i).filter fun v => cpN E m v == k
theorem zus (E : List (Nat × Nat)) (m i : Nat) : (fun k => iL (ze7 E m (i + 1) k)) = upd (fun k => iL (ze7 E m i k)) (cpN E m i) (iL (ze7 E m i (cpN E m i)) ++ [((i : Nat) : Int)]) := by
 funext k
 unfold ze7 upd
 rw [List.range_succ, List.filter_append, List.filter_cons]
 by_cases e : k = cpN E m i
 ·rw [if_pos e, if_pos (by rw [e]; exact beq_self_eq_true _), e]
  exact zkn _ _
 ·rw [if_neg e, if_neg (fun h => e (eq_of_beq h).symm), List.filter_nil, List.append_nil]
theorem zpv {E : List (Nat × Nat)} {m : Nat} (hb : ∀ u v, (u, v) ∈ E → u < m ∧ v < m) : (List.range (rps E m m).length).map (ze7 E m m) = zup E m := by
 unfold zup
 refine List.ext_getElem (by rw [List.length_map, List.length_map, List.length_range]) fun k h1 h2 => ?_
 rw [List.getElem_map, List.getElem_map, List.getElem_range]
 rw [List.length_map] at h2
 unfold ze7
 exact List.filter_congr fun v hv => cp_mut hb (List.mem_range.1 hv) h2
theorem zpw (E : List (Nat × Nat)) (m i k : Nat) : (ze7 E m i k).length ≤ i := Nat.le_trans (List.length_filter_le ..) (by rw [List.length_range]; exact Nat.le_refl _)
theorem zfm (E : List (Nat × Nat)) (m i : Nat) : (rps E m i).length ≤ i := Nat.le_trans (List.length_filter_le ..) (by rw [List.length_range]; exact Nat.le_refl _)
end Go.Proofs.Ytoagikifehmlpaa
namespace Go.Proofs.Ytoagikifehmlpaa
open Go Go.Am
def cmsN (m : Nat) (E : List (Nat × Nat)) : AV := .tup [cLL (zup E m), .int .i64 0]
def cmsV (n : Int) (es : List (Int × Int)) : AV := if zcj n es = 0 then cmsN n.toNat (es.map fun e => (e.1.toNat, e.2.toNat)) else .tup [.vs [], .int .i64 (zcj n es)]
theorem zht {m : Nat} {E : List (Nat × Nat)} (h : zcj m (zaj E) = 0) : cmsV m (zaj E) = cmsN m E := by
 unfold cmsV
 rw [if_pos h, zfy]
 rfl
theorem zk9 {n : Int} {es : List (Int × Int)} (h : zcj n es ≠ 0) : cmsV n es = .tup [.vs [], .int .i64 (zcj n es)] := if_neg h
theorem o_japp {w0 : World} {N0 n d d2 : Nat} {k : List Fr} {Q : Exit → AS → Prop} {l : List (Nat × AV)} {ios : List Opr} {m a b j sj nx ck : Nat} {L : Nat → List Int} {nz : Nat → Bool} {cv : Nat → AV} {C : Nat → List Int} {ids sps : Nat → Nat} {hp : List (Nat × Nat × AObj)} {bytes : Nat} {z : List AV} {s x o ia sa : Arg}
  (hJ : Jn m nz cv C ids sps hp nx) (hR : Rw m L nz cv C ids sps) (ha : a < m) (hL : (L a).length ≤ 100000) (hs : zbg s l = some (cv a)) (hx : zbg x l = some (.ms j sj 1 0 1 (some 1))) (hj : Am.look j hp = some (sj, .cells [.int .i64 (b : Nat)])) (hb : bytes ≤ 16777216)
  (ho : ∀ v, zbg o ((d, v) :: l) = some (.ms 0 1 1 0 m (some m))) (hi : ∀ v, zbg ia ((d, v) :: l) = some (.int .i64 (a : Nat))) (hsa : ∀ u v, zbg sa ((d2, u) :: (d, v) :: l) = some v)
  (go : ∀ u v hp' nx' ck' nz' cv' C' ids' sps', Jn m nz' cv' C' ids' sps' hp' nx' → Rw m (upd L a (L a ++ [((b : Nat) : Int)])) nz' cv' C' ids' sps' → Om Try.prog w0 N0 none (KnP Try.prog w0 N0) ios (st n ((d2, u) :: (d, v) :: l) hp' nx' ck') k Q) :
  Om Try.prog w0 N0 none (KnP Try.prog w0 N0) (⟨some d, .append 1 bytes z s x, none⟩ :: ⟨some d2, .idxs 1 o ia, none⟩ :: ⟨none, .store 1 (.t d2) sa, none⟩ :: ios) (st n l hp nx ck) k Q := by
 have ez : ∀ o : Nat, 0 + ((o : Nat) : Int).toNat * 1 = o := fun o => by simp
 have hel : ∀ l, (st n l hp nx ck []).elems 1 (.ms j sj 1 0 1 (some 1)) = some [[.int .i64 (b : Nat)]] := fun l => zdd (xs := [[.int .i64 (b : Nat)]]) (ys := []) hj rfl fun x hx => by obtain rfl := List.mem_singleton.1 hx; rfl
 have ht : ∀ (p : AV) (l : List (Nat × AV)), zbg (.t d2) ((d2, p) :: l) = some p := fun p l => by
  show zbu d2 ((d2, p) :: l) = some p
  rw [zbu, Nat.beq_refl]
 cases hz : nz a with
 | false =>
  obtain ⟨e1, e2⟩ := hR.none a ha hz
  have J1 := hJ.add a ck [((b : Nat) : Int)]
  have J2 := J1.cset a (.ms nx ck 1 0 1 none)
  refine zpp (v := .ms nx ck 1 0 1 none) (hp' := (nx, ck, .cells [.int .i64 (b : Nat)]) :: hp) (nx' := nx + 1) (ck' := ck + 1) (hs.trans (congrArg some e2)) hx (hel []) ?_ ?_ (fun _ _ _ _ _ _ _ => rfl)
  ·unfold zbq
   rw [if_neg (show ¬ [[AV.int .i64 (b : Nat)]].length = 0 from Nat.succ_ne_zero 0), if_pos (show [[AV.int .i64 (b : Nat)]].flatten.all AV.isCell = true ∧ bytes ≤ 16777216 from ⟨rfl, hb⟩)]
   rfl
  refine zaz (ho _) (hi _) (Int.natCast_nonneg a) (Int.ofNat_lt.2 ha) ?_
  rw [ez]
  refine zbd (id := 0) (sp := 1) (off := a) (ht _ _) (hsa _ _) rfl J1.top (by simp; exact ha) rfl ?_
  refine go _ _ _ _ _ _ _ _ _ _ J2 ⟨fun v hv hz' => ?_, fun v hv hz' => ?_⟩
  ·by_cases e : v = a
   ·subst e
    rw [zal, zal, zal, zal, zal, e1]
    exact ⟨List.cons_ne_nil _ _, rfl, rfl⟩
   ·rw [zaa _ _ e] at hz'
    rw [zaa _ _ e, zaa _ _ e, zaa _ _ e, zaa _ _ e, zaa _ _ e]
    exact hR.some v hv hz'
  ·by_cases e : v = a
   ·subst e
    rw [zal] at hz'
    cases hz'
   ·rw [zaa _ _ e] at hz'
    rw [zaa _ _ e, zaa _ _ e]
    exact hR.none v hv hz'
 | true =>
  obtain ⟨_, e1, e2⟩ := hR.some a ha hz
  have J1 := hJ.block ha hz ck (L a ++ [((b : Nat) : Int)])
  have J2 := J1.cset a (.ms (ids a) ck 1 0 ((L a).length + 1) none)
  have hc := hJ.cell a ha hz
  rw [e1] at hc
  refine zdn [[.int .i64 (b : Nat)]] (hs.trans (congrArg some e2)) hx (hel _) (Nat.succ_ne_zero 0) rfl hb hc (by rw [List.length_map, Nat.mul_one]) (by show (L a).length + 1 ≤ 1048576; omega) ?_ (fun _ _ _ _ _ _ _ => rfl)
  have e0 : (L a).map (AV.int .i64) ++ [[AV.int .i64 (b : Nat)]].flatten = (L a ++ [((b : Nat) : Int)]).map (AV.int .i64) := by rw [List.map_append]; rfl
  rw [e0]
  refine zaz (ho _) (hi _) (Int.natCast_nonneg a) (Int.ofNat_lt.2 ha) ?_
  rw [ez]
  refine zbd (id := 0) (sp := 1) (off := a) (ht _ _) (hsa _ _) rfl J1.top (by simp; exact ha) rfl ?_
  refine go _ _ _ _ _ _ _ _ _ _ J2 ⟨fun v hv hz' => ?_, fun v hv hz' => ?_⟩
  ·by_cases e : v = a
   ·subst e
    rw [zal, zal, zal, zal, List.length_append]
    exact ⟨by simp, rfl, rfl⟩
   ·rw [zaa _ _ e, zaa _ _ e, zaa _ _ e, zaa _ _ e]
    exact hR.some v hv hz'
  ·by_cases e : v = a
   ·subst e
    rw [hz] at hz'
    cases hz'
   ·rw [zaa _ _ e, zaa _ _ e]
    exact hR.none v hv hz'
def b13_0 : IC := .seq (.region [⟨(some 25), .bin .lss (.t 24) (.t 23), none⟩] none)
 (.seq (.cond (.t 25) (.skip)
 (.exit 0))
 (.seq (.block 1 (.seq (.region [⟨(some 26), .mov (.t 24), none⟩,
  ⟨(some 27), .idxs 1 (.t 22) (.t 24), none⟩,
  ⟨(some 28), .load none (.t 27), none⟩,
  ⟨(some 8), .mov (.t 26), none⟩,
  ⟨(some 9), .mov (.t 28), none⟩] none)
 (.region [⟨(some 29), .mov (.t 7), none⟩,
  ⟨(some 30), .mov (.t 9), none⟩,
  ⟨(some 31), .mov (.t 7), none⟩,
  ⟨(some 32), .mov (.t 9), none⟩,
  ⟨(some 33), .idxs 1 (.t 31) (.t 32), none⟩,
  ⟨(some 34), .load none (.t 33), none⟩,
  ⟨(some 35), .mov (.t 8), none⟩,
  ⟨(some 36), .bslice 1 1 [.int .i64 0] [(0, 1, (.t 35))], none⟩,
  ⟨(some 37), .append 1 8 [.int .i64 0] (.t 34) (.t 36), none⟩,
  ⟨(some 38), .idxs 1 (.t 29) (.t 30), none⟩,
  ⟨none, .store 1 (.t 38) (.t 37), none⟩] none)))
 (.region [⟨(some 39), .bin .add (.t 24) (.c (.int .i64 1)), none⟩,
  ⟨(some 24), .mov (.t 39), none⟩] none)))
-- pneumatic/digraph.Components
def ic13 : IC := .seq (.region [⟨(some 1), .box (.t 0), none⟩,
  ⟨(some 2), .mov (.c (.nils)), none⟩,
  ⟨(some 3), .mov (.c (.int .i64 0)), none⟩] none)
 (.seq (.seq (.region [⟨(some 10), .load (some 2) (.t 1), none⟩,
  ⟨(some 11), .call (.c (.fn 34 [] [])) [(.t 10)], none⟩,
  ⟨(some 4), .mov (.t 11), none⟩] none)
 (.seq (.region [⟨(some 12), .mov (.t 4), none⟩,
  ⟨(some 13), .bin .neq (.t 12) (.c (.int .i64 0)), none⟩] none)
 (.cond (.t 13) (.seq (.region [⟨(some 14), .mov (.t 4), none⟩,
  ⟨(some 2), .mov (.c (.nils)), none⟩,
  ⟨(some 3), .mov (.t 14), none⟩] none)
 (.ret))
 (.skip))))
 (.seq (.region [⟨(some 16), .load (some 2) (.t 1), none⟩,
  ⟨(some 17), .call (.c (.fn 43 [] [])) [(.t 16)], none⟩,
  ⟨(some 15), .mov (.t 17), none⟩,
  ⟨(some 18), .extract (.t 15) 0, none⟩,
  ⟨(some 19), .extract (.t 15) 1, none⟩,
  ⟨(some 5), .mov (.t 18), none⟩,
  ⟨(some 6), .mov (.t 19), none⟩] none)
 (.seq (.region [⟨(some 20), .mov (.t 6), none⟩,
  ⟨(some 21), .mkslice 1 24 [.nils] (.t 20) (.t 20), none⟩,
  ⟨(some 7), .mov (.t 21), none⟩] none)
 (.seq (.seq (.region [⟨(some 22), .mov (.t 5), none⟩,
  ⟨(some 23), .len false (.t 22), none⟩,
  ⟨(some 24), .mov (.c (.int .i64 0)), none⟩] none)
 (.block 0 (.loop b13_0)))
 (.seq (.region [⟨(some 40), .mov (.t 7), none⟩,
  ⟨(some 2), .mov (.t 40), none⟩,
  ⟨(some 3), .mov (.c (.int .i64 0)), none⟩] none)
 (.ret))))))
theorem fn13 : env0.fn 13 = some ⟨41, ic13, [.t 2, .t 3]⟩ := by kernel_rfl
set_option maxHeartbeats 8000000 in
theorem zem (n : Int) (es : List (Int × Int)) (hn : zcj n es = 0 → n ≤ 12) : PF Try.prog 13 [cG n es] (cmsV n es) := by
 have ez : ∀ o : Nat, 0 + ((o : Nat) : Int).toNat * 1 = o := fun o => by simp
 have p34 := zk8 n es
 refine zb7 env0_ok fn13 [(0, .agg [.int .i64 n, .vs (cE es)])] (by show 1 ≤ 41; decide) rfl fun w0 N0 => ?_
 unfold ic13
 refine za6 (za0 rfl (zdh rfl rfl (za2 rfl (za2 rfl (za3 (za1 ?_))))))
 refine zba [] [(0, 0, [.int .i64 n, .vs (cE es)])] [(1, .vptr [.int .i64 n, .vs (cE es)])] rfl (.cons rfl rfl .nil) .nil (.cons rfl (.fptr rfl rfl) .nil) ?_
 repeat (first | refine za6 ?_ | refine za0 rfl ?_ | refine zap rfl rfl rfl rfl ?_)
 refine zau rfl rfl p34 (fun h => Bool.noConfusion (show false = true from h)) ?_
 repeat (first | refine za6 ?_ | refine za0 rfl ?_ | refine za3 ?_ | refine za1 ?_ | refine za2 rfl ?_)
 refine zao rfl rfl rfl (fun h => ?_) fun h => ?_
 ·have h : ¬ zcj n es = 0 := by simpa using h
  rw [zk9 h]
  repeat (first | refine za6 ?_ | refine za0 rfl ?_ | refine za3 ?_ | refine za1 ?_ | refine zc5 rfl ?_ | refine zax ?_ | refine zam ?_ | refine za2 rfl ?_)
  exact zav ⟨.inr rfl, _, rfl, rfl⟩
 have h : zcj n es = 0 := by simpa using h
 have hn := hn h
 obtain ⟨m, E, rfl, rfl, hm, _, hE, hb⟩ := zf7 h
 rw [zht h]
 have p43 := zgt m (by omega) E hE hb
 unfold cmpV at p43
 rw [zsm] at p43
 have hrl := zfm E m m
 have hcp := fun v (hv : v < m) => zjd hb hv
 have hps := zus E m
 have hpe := zpv hb
 have hpl := zpw E m
 unfold cmsN
 rw [← hpe]
 have hcl : ((List.range m).map (cpN E m)).length = m := by rw [List.length_map, List.length_range]
 have hvl : ((iL ((List.range m).map (cpN E m))).map fun z => ([.int .i64 z] : List AV)).length = m := by rw [List.length_map, zd9, hcl]
 have hcg : ∀ v, v < m → gN ((List.range m).map (cpN E m)) v = cpN E m v := fun v hv => by
  rw [← zni (by rw [hcl]; exact hv), List.getElem_map, List.getElem_range]
 have hL0 : (fun k => iL (ze7 E m 0 k)) = fun _ => [] := rfl
 generalize (rps E m m).length = nn at *
 repeat (first | refine za6 ?_ | refine za0 rfl ?_ | refine za3 ?_ | refine za1 ?_ | refine zad ?_ | refine zbp rfl ?_ | refine zap rfl rfl rfl rfl ?_)
 refine zau rfl rfl p43 (fun h => Bool.noConfusion (show false = true from h)) ?_
 repeat (first | refine za6 ?_ | refine za0 rfl ?_ | refine za3 ?_ | refine za1 ?_ | refine za2 rfl ?_ | refine zb9 rfl rfl ?_)
 refine zo4 rfl rfl ⟨Int.natCast_nonneg nn, Int.le_refl _, by omega, by decide⟩ ?_
 repeat (first | refine za6 ?_ | refine za0 rfl ?_ | refine za3 ?_ | refine za1 ?_ | refine zab ?_ | refine za2 rfl ?_ | refine zbh rfl rfl ?_)
 have J0 : Jn nn (fun _ => false) (fun _ => .nils) (fun _ => []) (fun _ => 0) (fun _ => 0) [(0, 1, AObj.cells (zei ((nn : Nat) : Int).toNat [.nils]))] 1 := by
  refine ⟨?_, fun _ _ h => (by cases h), fun _ _ h => (by cases h), fun _ _ _ _ h => (by cases h), Nat.zero_lt_one⟩
  rw [← zf1]
  rfl
 refine zb6 (fun mm S => ∃ i hp nx ck nz cv C ids sps, mm = m - i ∧ i ≤ m ∧ Jn nn nz cv C ids sps hp nx ∧ Rw nn (fun k => iL (ze7 E m i k)) nz cv C ids sps ∧ S = st 41 [(7, .ms 0 1 1 0 nn (some nn)), (22, vsI (iL ((List.range m).map (cpN E m)))), (23, .int .i64 (m : Nat)), (24, .int .i64 (i : Nat))] hp nx ck) m
  (za7 (.cons rfl (.cons rfl (.cons (by exact congrArg (fun z : Nat => some (AV.int .i64 (z : Nat))) hvl) (.cons rfl .nil))))) ⟨0, _, _, _, _, _, _, _, _, rfl, Nat.zero_le _, J0, ⟨fun _ _ h => (by cases h), fun _ _ _ => ⟨rfl, rfl⟩⟩, rfl⟩ ?_
 rintro mm S ⟨i, hp, nx, ck, nz, cv, C, ids, sps, rfl, hi, hJ, hR, rfl⟩
 unfold b13_0
 repeat (first | refine za6 ?_ | refine za0 rfl ?_)
 refine zao rfl rfl rfl (fun h3 => ?_) fun h3 => ?_
 ·have hlt : i < m := Int.ofNat_lt.1 (of_decide_eq_true h3)
  have w1 : IntKind.wrap .i64 (((i : Nat) : Int) + 1) = ((i + 1 : Nat) : Int) := zag i (by omega)
  have hgk := zjh (l := (List.range m).map (cpN E m)) (i := i) (by omega)
  rw [hcg i hlt] at hgk
  have hai := hcp i hlt
  have hps := hps i
  have hpl := hpl i (cpN E m i)
  generalize cpN E m i = a at *
  repeat (first | refine za6 ?_ | refine za0 rfl ?_ | refine za3 ?_ | refine za1 ?_ | refine zab ?_ | refine zad ?_ | refine zc5 rfl ?_ | refine za2 rfl ?_ | refine zaf rfl rfl ?_ | refine zb0 rfl rfl (by omega) (by assumption) rfl ?_ | refine zaz rfl rfl (by omega) (by omega) ?_)
  rw [ez]
  refine zak (id := 0) (sp := 1) (off := a) rfl hJ.top hJ.nx0 (hJ.get hai) ?_
  repeat (first | refine za2 rfl ?_ | refine zch rfl rfl ?_)
  refine o_japp (a := a) (b := i) (hJ.fresh ck (.cells [.int .i64 (i : Nat)])) hR hai (by rw [zd9]; omega) rfl rfl zbe (by decide) (fun _ => rfl) (fun _ => rfl) (fun _ _ => rfl) fun u v hp' nx' ck' nz' cv' C' ids' sps' hJ' hR' => ?_
  repeat (first | refine za0 rfl ?_ | refine za3 ?_ | refine za1 ?_ | refine zb2 ?_ | refine za2 rfl ?_ | refine zay (op := .add) rfl rfl rfl ?_)
  rw [w1]
  exact zah (show m - (i + 1) < m - i by omega) (za7 (.cons rfl (.cons rfl (.cons rfl (.cons rfl .nil))))) ⟨i + 1, _, _, _, _, _, _, _, _, rfl, hlt, hJ', by rw [hps]; exact hR', rfl⟩
 ·have hie : i = m := by
   have h4 : ¬ ((i : Nat) : Int) < ((m : Nat) : Int) := of_decide_eq_false h3
   omega
  subst hie
  repeat (first | refine za6 ?_ | refine za3 ?_ | refine za1 ?_ | refine zbp rfl ?_ | refine zb4 ?_ | refine zac ?_)
  refine zbx ?_
  repeat (first | refine za6 ?_ | refine za1 ?_ | refine zb3 ?_)
  refine zba [(some (0, 1), (List.range nn).map fun k => vsI (iL (ze7 E i i k)))] (fzJ nn nz C ids sps) [(7, .ms 0 0 1 0 nn (some nn))] (hJ.ok _) hJ.rnF (.cons hJ.top (zv6 fun v hv => ?_) .nil) (.cons rfl (.ms rfl) .nil) ?_
  ·have hv := List.mem_range.1 hv
   cases hz : nz v with
   | true =>
    obtain ⟨e0, e1, e2⟩ := hR.some v hv hz
    rw [e2]
    have hfz := hJ.fzl hv hz
    rw [e1] at hfz
    refine .fms hfz (by rw [List.length_map]) (fun x hx => by obtain ⟨s, _, rfl⟩ := List.mem_map.1 hx; rfl) ⟨[], ?_⟩
    rw [List.drop_zero, List.append_nil, ze1]
   | false =>
    obtain ⟨e0, e2⟩ := hR.none v hv hz
    rw [e2, e0]
    exact .nilvs
  refine zba [] [(0, 0, (List.range nn).map fun k => vsI (iL (ze7 E i i k)))] [(7, cLL ((List.range nn).map (ze7 E i i)))] rfl (.cons rfl ?_ .nil) .nil (.cons rfl ?_ .nil) ?_
  ·exact zia (fun v => rfl) _
  ·have := RenW.fms1 (live := []) (fz := [(0, 0, (List.range nn).map fun k => vsI (iL (ze7 E i i k)))]) (id := 0) (sp := 0) (len := nn) (cap := some nn) (vs := (List.range nn).map fun k => vsI (iL (ze7 E i i k))) rfl (by rw [List.length_map, List.length_range])
   rw [List.map_map] at this
   unfold cLL
   rw [List.map_map]
   exact this
  refine za0 rfl ?_
  repeat (first | refine za3 ?_ | refine za1 ?_ | refine zax ?_ | refine za2 rfl ?_)
  exact zav ⟨.inr rfl, _, rfl, rfl⟩
end Go.Proofs.Ytoagikifehmlpaa
namespace Go.Proofs.Ytoagikifehmlpaa
open Go Go.Am
def zpu (E : List (Nat × Nat)) (m i : Nat) : List (List Nat) := (rps E m i).map fun r => (List.range m).filter fun v => zfa E m r v
def zlo (E : List (Nat × Nat)) (m v w : Nat) : List Nat := (List.range w).filter fun u => zfa E m v u
theorem zur (E : List (Nat × Nat)) (m v w : Nat) : zlo E m v (w + 1) = if zfa E m v w = true then zlo E m v w ++ [w] else zlo E m v w := by
 unfold zlo
 rw [List.range_succ, List.filter_append, List.filter_cons]
 split
 ·rfl
 ·rw [List.filter_nil, List.append_nil]
theorem prtW_len (E : List (Nat × Nat)) (m v w : Nat) : (zlo E m v w).length ≤ w := Nat.le_trans (List.length_filter_le ..) (by rw [List.length_range]; exact Nat.le_refl _)
theorem zmj (E : List (Nat × Nat)) (m x y : Nat) : zfa E m x y = zfa E m y x := Bool.and_comm ..
theorem zmq {E : List (Nat × Nat)} {m v : Nat} (hb : ∀ u v, (u, v) ∈ E → u < m ∧ v < m) (hv : v < m) : 0 < (zlo E m v m).length ∧ (gN (zlo E m v m) 0 = v ↔ ((List.range v).all fun u => !zfa E m u v) = true) := by
 have hself : zfa E m v v = true := (zdg hb hv hv).2 ⟨Rch.refl E v, Rch.refl E v⟩
 have hmem : v ∈ zlo E m v m := List.mem_filter.2 ⟨List.mem_range.2 hv, hself⟩
 have hh : (zlo E m v m).head? = (List.range m).find? fun u => zfa E m v u := List.head?_filter
 have hg : gN (zlo E m v m) 0 = ((List.range m).find? fun u => zfa E m v u).getD 0 := by
  rw [← hh]
  unfold gN
  cases zlo E m v m <;> rfl
 refine ⟨List.length_pos_of_mem hmem, ?_⟩
 rw [hg, List.all_eq_true]
 constructor
 ·intro h u hu
  rw [List.mem_range] at hu
  cases hf : (List.range m).find? fun u => zfa E m v u with
  | none => exact absurd hself (List.find?_eq_none.1 hf v (List.mem_range.2 hv))
  | some r =>
   rw [hf] at h
   have h : r = v := h
   obtain ⟨_, _, h3⟩ := List.find?_range_eq_some.1 hf
   rw [zmj]
   exact h3 u (by omega)
 ·intro h
  have : (List.range m).find? (fun u => zfa E m v u) = some v := List.find?_range_eq_some.2 ⟨hself, List.mem_range.2 hv, fun j hj => by
   have := h j (List.mem_range.2 hj)
   rw [zmj] at this
   exact this⟩
  rw [this]
  rfl
theorem zuq {E : List (Nat × Nat)} {m v : Nat} (hb : ∀ u v, (u, v) ∈ E → u < m ∧ v < m) (hv : v < m) : zpu E m (v + 1) = if gN (zlo E m v m) 0 = v then zpu E m v ++ [zlo E m v m] else zpu E m v := by
 have h := (zmq hb hv).2
 unfold zpu
 rw [zq3]
 by_cases c : ((List.range v).all fun u => !zfa E m u v) = true
 ·rw [if_pos c, if_pos (h.2 c), List.map_append]
  rfl
 ·rw [if_neg c, if_neg fun e => c (h.1 e)]
theorem prtP_len (E : List (Nat × Nat)) (m i : Nat) : (zpu E m i).length ≤ i := by
 unfold zpu
 rw [List.length_map]
 exact zfm E m i
def zgs (ps : List (List Nat)) : List AV := ps.map fun p => vsI (iL p)
theorem zt9 : ∀ ps : List (List Nat), (ps.map fun p => ([vsI (iL p)] : List AV)).flatten = zgs ps
 | [] => rfl
 | p :: ps => by
  rw [List.map_cons, List.flatten_cons, zt9 ps]
  rfl
theorem zrj {S : AS} {d id sp : Nat} (ps : List (List Nat)) (hl : Am.look id S.heap = some (sp, .cells (zgs ps))) : S.view (d + 1) (.ms id sp 1 0 ps.length none) = cLL ps := by
 have hfl : (ps.map fun p => ([vsI (iL p)] : List AV)).flatten = zgs ps := zt9 ps
 have e : S.elems 1 (.ms id sp 1 0 ps.length none) = some (ps.map fun p => ([vsI (iL p)] : List AV)) := by
  obtain ⟨n, t, hp, nx, ck, mk⟩ := S
  exact zdd (ys := []) (cap := none) (n := n) (nx := nx) (ck := ck) (mk := mk) (l := []) (hp := hp) (by rw [List.append_nil, hfl]; exact hl) (List.length_map ..) (fun x hx => by obtain ⟨s, _, rfl⟩ := List.mem_map.1 hx; rfl)
 simp only [AS.view, e]
 unfold cLL
 congr 1
 rw [List.map_map]
 apply List.map_congr_left
 intro s _
 cases d <;> rfl
def b44_2 : IC := .seq (.seq (.region [⟨(some 13), .mov (.t 6), none⟩,
  ⟨(some 14), .faddr 0 (.t 1), none⟩,
  ⟨(some 15), .load none (.t 14), none⟩,
  ⟨(some 16), .bin .lss (.t 13) (.t 15), none⟩] none)
 (.cond (.t 16) (.skip)
 (.exit 2)))
 (.seq (.block 3 (.seq (.region [⟨(some 19), .load (some 2) (.t 1), none⟩,
  ⟨(some 20), .mov (.t 4), none⟩,
  ⟨(some 21), .call (.c (.fn 54 [] [])) [(.t 19), (.t 20)], none⟩,
  ⟨(some 22), .mov (.t 6), none⟩,
  ⟨(some 23), .idxs 1 (.t 21) (.t 22), none⟩,
  ⟨(some 24), .load none (.t 23), none⟩,
  ⟨(some 25), .bin .geq (.t 24) (.c (.int .i64 0)), none⟩,
  ⟨(some 26), .mov (.t 25), none⟩,
  ⟨(some 27), .load (some 2) (.t 1), some (26, true)⟩,
  ⟨(some 28), .mov (.t 6), some (26, true)⟩,
  ⟨(some 29), .call (.c (.fn 54 [] [])) [(.t 27), (.t 28)], some (26, true)⟩,
  ⟨(some 30), .mov (.t 4), some (26, true)⟩,
  ⟨(some 31), .idxs 1 (.t 29) (.t 30), some (26, true)⟩,
  ⟨(some 32), .load none (.t 31), some (26, true)⟩,
  ⟨(some 33), .bin .geq (.t 32) (.c (.int .i64 0)), some (26, true)⟩,
  ⟨(some 34), .pick (.t 26) (.t 33) (.c (.bool false)), none⟩] none)
 (.cond (.t 34) (.region [⟨(some 35), .mov (.t 5), none⟩,
  ⟨(some 36), .mov (.t 6), none⟩,
  ⟨(some 37), .bslice 1 1 [.int .i64 0] [(0, 1, (.t 36))], none⟩,
  ⟨(some 38), .append 1 8 [.int .i64 0] (.t 35) (.t 37), none⟩,
  ⟨(some 5), .mov (.t 38), none⟩] none)
 (.skip))))
 (.region [⟨(some 17), .mov (.t 6), none⟩,
  ⟨(some 18), .bin .add (.t 17) (.c (.int .i64 1)), none⟩,
  ⟨(some 6), .mov (.t 18), none⟩] none))
def b44_0 : IC := .seq (.seq (.region [⟨(some 7), .mov (.t 4), none⟩,
  ⟨(some 8), .faddr 0 (.t 1), none⟩,
  ⟨(some 9), .load none (.t 8), none⟩,
  ⟨(some 10), .bin .lss (.t 7) (.t 9), none⟩] none)
 (.cond (.t 10) (.skip)
 (.exit 0)))
 (.seq (.block 1 (.seq (.region [⟨(some 5), .mov (.c (.nils)), none⟩] none)
 (.seq (.seq (.region [⟨(some 6), .mov (.c (.int .i64 0)), none⟩] none)
 (.block 2 (.loop b44_2)))
 (.seq (.region [⟨(some 39), .mov (.t 5), none⟩,
  ⟨(some 40), .idxs 1 (.t 39) (.c (.int .i64 0)), none⟩,
  ⟨(some 41), .load none (.t 40), none⟩,
  ⟨(some 42), .mov (.t 4), none⟩,
  ⟨(some 43), .bin .eql (.t 41) (.t 42), none⟩] none)
 (.cond (.t 43) (.region [⟨(some 44), .mov (.t 3), none⟩,
  ⟨(some 45), .mov (.t 5), none⟩,
  ⟨(some 46), .bslice 1 1 [.nils] [(0, 1, (.t 45))], none⟩,
  ⟨(some 47), .append 1 24 [.nils] (.t 44) (.t 46), none⟩,
  ⟨(some 3), .mov (.t 47), none⟩] none)
 (.skip))))))
 (.region [⟨(some 11), .mov (.t 4), none⟩,
  ⟨(some 12), .bin .add (.t 11) (.c (.int .i64 1)), none⟩,
  ⟨(some 4), .mov (.t 12), none⟩] none))
-- pneumatic/pneumaticref10.Parts
def ic44 : IC := .seq (.region [⟨(some 1), .box (.t 0), none⟩,
  ⟨(some 2), .mov (.c (.nils)), none⟩] none)
 (.seq (.region [⟨(some 3), .mov (.c (.nils)), none⟩] none)
 (.seq (.seq (.region [⟨(some 4), .mov (.c (.int .i64 0)), none⟩] none)
 (.block 0 (.loop b44_0)))
 (.seq (.region [⟨(some 48), .mov (.t 3), none⟩,
  ⟨(some 2), .mov (.t 48), none⟩] none)
 (.ret))))
theorem fn44 : env0.fn 44 = some ⟨49, ic44, [.t 2]⟩ := by kernel_rfl
set_option maxHeartbeats 8000000 in
theorem zun (m : Nat) (hm : m ≤ 256) (E : List (Nat × Nat)) (hE : E.length ≤ 5000) (hb : ∀ u v, (u, v) ∈ E → u < m ∧ v < m) : PF Try.prog 44 [cG (m : Nat) (zaj E)] (cLL (zup E m)) := by
 refine zb7 env0_ok fn44 [(0, .agg [.int .i64 (m : Nat), .vs (cE (zaj E))])] (by show 1 ≤ 49; decide) rfl fun w0 N0 => ?_
 unfold ic44
 refine za6 (za0 rfl (zdh rfl rfl (za2 rfl (za3 (za1 ?_)))))
 refine zba [] [(0, 0, [.int .i64 (m : Nat), .vs (cE (zaj E))])] [(1, .vptr [.int .i64 (m : Nat), .vs (cE (zaj E))])] rfl (.cons rfl rfl .nil) .nil (.cons rfl (.fptr rfl rfl) .nil) ?_
 repeat (first | refine za6 ?_ | refine za0 rfl ?_ | refine za3 ?_ | refine za1 ?_ | refine zab ?_ | refine za2 rfl ?_)
 refine z_grow 3 1 rfl ?_
 refine zb6 (fun mm S => ∃ v hp nx ck sp, mm = m - v ∧ v ≤ m ∧ 0 < nx ∧ Am.look 0 hp = some (sp, .cells (zgs (zpu E m v))) ∧ S = st 49 [(1, .vptr [.int .i64 (m : Nat), .vs (cE (zaj E))]), (3, .ms 0 sp 1 0 (zpu E m v).length none), (4, .int .i64 (v : Nat))] hp nx ck) m
  (za7 (.cons rfl (.cons rfl (.cons rfl .nil)))) ⟨0, _, _, _, _, rfl, Nat.zero_le _, Nat.zero_lt_one, rfl, rfl⟩ ?_
 rintro mm S ⟨v, hp, nx, ck, sp, rfl, hv, hnx, hk, rfl⟩
 have hpl := prtP_len E m v
 unfold b44_0
 repeat (first | refine za6 ?_ | refine za0 rfl ?_ | refine za2 rfl ?_ | refine zaf rfl rfl ?_ | refine zae rfl rfl rfl ?_)
 refine zao rfl rfl rfl (fun h3 => ?_) fun h3 => ?_
 ·have hlt : v < m := Int.ofNat_lt.1 (of_decide_eq_true h3)
  have w1 : IntKind.wrap .i64 (((v : Nat) : Int) + 1) = ((v + 1 : Nat) : Int) := zag v (by omega)
  have p54 := fun w (hw : w < m) => far54 m hm E hE hb w hw
  have hfl := fun w => zkh E m w m
  have hsucc := zuq hb hlt
  have hhd := (zmq hb hlt).1
  repeat (first | refine za6 ?_ | refine za0 rfl ?_ | refine za3 ?_ | refine za1 ?_ | refine zab ?_ | refine zad ?_ | refine zc5 rfl ?_ | refine za2 rfl ?_)
  refine z_grow 5 1 rfl ?_
  refine zb6 (fun mm S => ∃ w hp nx2 ck sp2, mm = m - w ∧ w ≤ m ∧ nx < nx2 ∧ Am.look 0 hp = some (sp, .cells (zgs (zpu E m v))) ∧ Am.look nx hp = some (sp2, .cells ((iL (zlo E m v w)).map (AV.int .i64))) ∧ S = st 49 [(1, .vptr [.int .i64 (m : Nat), .vs (cE (zaj E))]), (3, .ms 0 sp 1 0 (zpu E m v).length none), (4, .int .i64 (v : Nat)), (5, .ms nx sp2 1 0 (iL (zlo E m v w)).length none), (6, .int .i64 (w : Nat))] hp nx2 ck) m
   (za7 (.cons rfl (.cons rfl (.cons rfl (.cons rfl (.cons rfl .nil)))))) ⟨0, _, _, _, _, rfl, Nat.zero_le _, Nat.lt_succ_self _, by rw [za9, if_neg (by omega)]; exact hk, zbe, rfl⟩ ?_
  rintro mm S ⟨w, hp, nx2, ck, sp2, rfl, hw, hn2, hk, hk2, rfl⟩
  have hwl := prtW_len E m v w
  unfold b44_2
  repeat (first | refine za6 ?_ | refine za0 rfl ?_ | refine za2 rfl ?_ | refine zaf rfl rfl ?_ | refine zae rfl rfl rfl ?_)
  refine zao rfl rfl rfl (fun h4 => ?_) fun h4 => ?_
  ·have hlt2 : w < m := Int.ofNat_lt.1 (of_decide_eq_true h4)
   have w2 : IntKind.wrap .i64 (((w : Nat) : Int) + 1) = ((w + 1 : Nat) : Int) := zag w (by omega)
   have g1 : ((zfp E m v m).map fun z => ([.int .i64 z] : List AV))[((w : Nat) : Int).toNat]? = some [.int .i64 (gI (zfp E m v m) w)] := by rw [zew (by rw [hfl]; exact hlt2), gI_at]
   have g2 : ((zfp E m w m).map fun z => ([.int .i64 z] : List AV))[((v : Nat) : Int).toNat]? = some [.int .i64 (gI (zfp E m w m) v)] := by rw [zew (by rw [hfl]; exact hlt), gI_at]
   have hs := zur E m v w
   unfold zfa at hs
   repeat (first | refine za6 ?_ | refine za0 rfl ?_ | refine za3 ?_ | refine za1 ?_ | refine zab ?_ | refine zad ?_ | refine zc5 rfl ?_ | refine za2 rfl ?_ | refine zap rfl rfl rfl rfl ?_)
   refine zau rfl rfl (p54 v hlt) (fun h => Bool.noConfusion (show false = true from h)) ?_
   repeat (first | refine za2 rfl ?_ | refine zaf rfl rfl ?_ | refine zb0 rfl rfl (by omega) (by assumption) rfl ?_)
   refine zao rfl rfl rfl (fun h5 => ?_) fun h5 => ?_
   ·rw [show decide (gI (zfp E m v m) w ≥ 0) = true from h5, Bool.true_and] at hs
    repeat (first | refine zck rfl ?_ | refine za2 rfl ?_ | refine zap rfl rfl rfl rfl ?_)
    refine zau rfl rfl (p54 w hlt2) (fun h => Bool.noConfusion (show false = true from h)) ?_
    repeat (first | refine zck rfl ?_ | refine za2 rfl ?_ | refine zaf rfl rfl ?_ | refine zb0 rfl rfl (by omega) (by assumption) rfl ?_)
    refine zao rfl rfl rfl (fun h6 => ?_) fun h6 => ?_
    ·rw [if_pos (show decide (gI (zfp E m w m) v ≥ 0) = true from h6)] at hs
     repeat (first | refine za0 rfl ?_ | refine za3 ?_ | refine za1 ?_ | refine zc5 rfl ?_ | refine za2 rfl ?_ | refine zat rfl rfl ?_ | refine zch rfl rfl ?_)
     have hel : ∀ l : List (Nat × AV), (st 49 l ((nx2, ck, AObj.cells [.int .i64 (w : Nat)]) :: hp) (nx2 + 1) (ck + 1) []).elems 1 (.ms nx2 ck 1 0 1 (some 1)) = some [[.int .i64 (w : Nat)]] := fun l => zdd (xs := [[.int .i64 (w : Nat)]]) (ys := []) zbe rfl fun x hx => by obtain rfl := List.mem_singleton.1 hx; rfl
     refine zdn [[.int .i64 (w : Nat)]] rfl rfl (hel _) (fun h => Nat.noConfusion h) rfl (by decide) (by rw [za9, if_neg (by omega)]; exact hk2) (by rw [List.length_map, Nat.mul_one]) (by rw [zd9]; show _ + 1 ≤ _; omega) ?_ (fun _ _ _ _ _ _ _ => rfl)
     have e1 : (iL (zlo E m v w)).length + [[AV.int .i64 (w : Nat)]].length = (iL (zlo E m v (w + 1))).length := by rw [hs, zd9, zd9, List.length_append]; rfl
     rw [e1]
     repeat (first | refine za0 rfl ?_ | refine za3 ?_ | refine za1 ?_ | refine zb2 ?_ | refine za2 rfl ?_ | refine zay (op := .add) rfl rfl rfl ?_)
     rw [w2]
     exact zah (show m - (w + 1) < m - w by omega) (za7 (.cons rfl (.cons rfl (.cons rfl (.cons rfl (.cons rfl .nil)))))) ⟨w + 1, _, _, _, _, rfl, hlt2, by omega, by rw [za4, if_neg (by omega), za9, if_neg (by omega)]; exact hk, by rw [za4, if_pos rfl, hs, zkn, List.map_append]; rfl, rfl⟩
    ·rw [if_neg (by rw [show decide (gI (zfp E m w m) v ≥ 0) = false from h6]; exact Bool.false_ne_true)] at hs
     repeat (first | refine za0 rfl ?_ | refine za3 ?_ | refine za1 ?_ | refine zb2 ?_ | refine zad ?_ | refine zbp rfl ?_ | refine za2 rfl ?_ | refine zat rfl rfl ?_ | refine zay (op := .add) rfl rfl rfl ?_)
     rw [w2]
     exact zah (show m - (w + 1) < m - w by omega) (za7 (.cons rfl (.cons rfl (.cons rfl (.cons rfl (.cons rfl .nil)))))) ⟨w + 1, _, _, _, _, rfl, hlt2, hn2, hk, by rw [hs]; exact hk2, by rw [hs]⟩
   ·rw [show decide (gI (zfp E m v m) w ≥ 0) = false from h5, Bool.false_and, if_neg Bool.false_ne_true] at hs
    repeat (first | refine za0 rfl ?_ | refine za3 ?_ | refine za1 ?_ | refine zb2 ?_ | refine zad ?_ | refine zbp rfl ?_ | refine zj7 rfl rfl ?_ | refine za2 rfl ?_ | refine zas rfl rfl ?_ | refine zay (op := .add) rfl rfl rfl ?_)
    rw [w2]
    exact zah (show m - (w + 1) < m - w by omega) (za7 (.cons rfl (.cons rfl (.cons rfl (.cons rfl (.cons rfl .nil)))))) ⟨w + 1, _, _, _, _, rfl, hlt2, hn2, hk, by rw [hs]; exact hk2, by rw [hs]⟩
  ·have hie : w = m := by
    have h5 : ¬ ((w : Nat) : Int) < ((m : Nat) : Int) := of_decide_eq_false h4
    omega
   subst hie
   generalize zlo E w v w = p at *
   repeat (first | refine za3 ?_ | refine za1 ?_ | refine zbp rfl ?_ | refine zb4 ?_ | refine zac ?_)
   refine zbx ?_
   repeat (first | refine za6 ?_ | refine za1 ?_ | refine zb3 ?_)
   refine z_freeze (l' := [(1, .vptr [.int .i64 (w : Nat), .vs (cE (zaj E))]), (3, .ms 0 sp 1 0 (zpu E w v).length none), (4, .int .i64 (v : Nat)), (5, vsI (iL p))]) nx sp2 hk2 (zcx _) (.cons rfl .same (.cons rfl .same (.cons rfl .same (.cons rfl (.fms (List.length_map ..) (fun x hx => by obtain ⟨s, _, rfl⟩ := List.mem_map.1 hx; rfl) ⟨[], by rw [List.drop_zero, List.append_nil, ze1]⟩) .nil)))) ?_
   have g0 := zjh (l := p) (i := 0) hhd
   have hkd : Am.look 0 (zca nx hp) = some (sp, .cells (zgs (zpu E w v))) := by rw [zbb, if_neg (by omega)]; exact hk
   refine za0 rfl ?_
   repeat (first | refine za2 rfl ?_ | refine zaf rfl rfl ?_ | refine zb0 rfl rfl (by omega) (by assumption) rfl ?_)
   refine zao rfl rfl rfl (fun h5 => ?_) fun h5 => ?_
   ·have h5 : gN p 0 = v := Int.ofNat_inj.1 (by simpa using h5)
    rw [if_pos h5] at hsucc
    repeat (first | refine za0 rfl ?_ | refine za3 ?_ | refine za1 ?_ | refine zc5 rfl ?_ | refine za2 rfl ?_ | refine zch rfl rfl ?_)
    have hel : ∀ l : List (Nat × AV), (st 49 l ((nx2, ck, AObj.cells [vsI (iL p)]) :: zca nx hp) (nx2 + 1) (ck + 1) []).elems 1 (.ms nx2 ck 1 0 1 (some 1)) = some [[vsI (iL p)]] := fun l => zdd (xs := [[vsI (iL p)]]) (ys := []) zbe rfl fun x hx => by obtain rfl := List.mem_singleton.1 hx; rfl
    refine zdn [[vsI (iL p)]] rfl rfl (hel _) (fun h => Nat.noConfusion h) rfl (by decide) (by rw [za9, if_neg (by omega)]; exact hkd) (by unfold zgs; rw [List.length_map, Nat.mul_one]) (by show _ + 1 ≤ _; omega) ?_ (fun _ _ _ _ _ _ _ => rfl)
    have e1 : (zpu E w v).length + [[vsI (iL p)]].length = (zpu E w (v + 1)).length := by rw [hsucc, List.length_append]; rfl
    rw [e1]
    repeat (first | refine za0 rfl ?_ | refine za3 ?_ | refine za1 ?_ | refine zb2 ?_ | refine za2 rfl ?_ | refine zay (op := .add) rfl rfl rfl ?_)
    rw [w1]
    exact zah (show w - (v + 1) < w - v by omega) (za7 (.cons rfl (.cons rfl (.cons rfl .nil)))) ⟨v + 1, _, _, _, _, rfl, hlt, by omega, by rw [za4, if_pos rfl, hsucc]; unfold zgs; rw [List.map_append]; rfl, rfl⟩
   ·have h5 : ¬ gN p 0 = v := fun e => (show ¬ ((gN p 0 : Nat) : Int) = (v : Nat) by simpa using h5) (by rw [e])
    rw [if_neg h5] at hsucc
    rw [← hsucc] at hkd ⊢
    repeat (first | refine za0 rfl ?_ | refine za3 ?_ | refine za1 ?_ | refine zb2 ?_ | refine zad ?_ | refine zbp rfl ?_ | refine za2 rfl ?_ | refine zay (op := .add) rfl rfl rfl ?_)
    rw [w1]
    exact zah (show w - (v + 1) < w - v by omega) (za7 (.cons rfl (.cons rfl (.cons rfl .nil)))) ⟨v + 1, _, _, _, _, rfl, hlt, by omega, hkd, rfl⟩
 ·have hie : v = m := by
   have h4 : ¬ ((v : Nat) : Int) < ((m : Nat) : Int) := of_decide_eq_false h3
   omega
  subst hie
  repeat (first | refine za3 ?_ | refine za1 ?_ | refine zbp rfl ?_ | refine zb4 ?_ | refine zac ?_)
  refine zbx ?_
  repeat (first | refine za6 ?_ | refine za0 rfl ?_ | refine za3 ?_ | refine za1 ?_ | refine zax ?_ | refine zb3 ?_ | refine za2 rfl ?_)
  exact zav ⟨.inr rfl, _, rfl, zrj _ hk⟩
-- pneumatic/pneumaticref10.Components
def ic14 : IC := .seq (.region [⟨(some 1), .box (.t 0), none⟩,
  ⟨(some 2), .mov (.c (.nils)), none⟩,
  ⟨(some 3), .mov (.c (.int .i64 0)), none⟩] none)
 (.seq (.seq (.region [⟨(some 5), .load (some 2) (.t 1), none⟩,
  ⟨(some 6), .call (.c (.fn 35 [] [])) [(.t 5)], none⟩,
  ⟨(some 4), .mov (.t 6), none⟩] none)
 (.seq (.region [⟨(some 7), .mov (.t 4), none⟩,
  ⟨(some 8), .bin .neq (.t 7) (.c (.int .i64 0)), none⟩] none)
 (.cond (.t 8) (.seq (.region [⟨(some 9), .mov (.t 4), none⟩,
  ⟨(some 2), .mov (.c (.nils)), none⟩,
  ⟨(some 3), .mov (.t 9), none⟩] none)
 (.ret))
 (.skip))))
 (.seq (.region [⟨(some 10), .load (some 2) (.t 1), none⟩,
  ⟨(some 11), .call (.c (.fn 44 [] [])) [(.t 10)], none⟩,
  ⟨(some 2), .mov (.t 11), none⟩,
  ⟨(some 3), .mov (.c (.int .i64 0)), none⟩] none)
 (.ret)))
theorem fn14 : env0.fn 14 = some ⟨12, ic14, [.t 2, .t 3]⟩ := by kernel_rfl
theorem zm1 (n : Int) (es : List (Int × Int)) : PF Try.prog 14 [cG n es] (cmsV n es) := by
 have p35 := zne n es
 refine zb7 env0_ok fn14 [(0, .agg [.int .i64 n, .vs (cE es)])] (by show 1 ≤ 12; decide) rfl fun w0 N0 => ?_
 unfold ic14
 refine za6 (za0 rfl (zdh rfl rfl (za2 rfl (za2 rfl (za3 (za1 ?_))))))
 refine zba [] [(0, 0, [.int .i64 n, .vs (cE es)])] [(1, .vptr [.int .i64 n, .vs (cE es)])] rfl (.cons rfl rfl .nil) .nil (.cons rfl (.fptr rfl rfl) .nil) ?_
 repeat (first | refine za6 ?_ | refine za0 rfl ?_ | refine zap rfl rfl rfl rfl ?_)
 refine zau rfl rfl p35 (fun h => Bool.noConfusion (show false = true from h)) ?_
 repeat (first | refine za6 ?_ | refine za0 rfl ?_ | refine za3 ?_ | refine za1 ?_ | refine za2 rfl ?_)
 refine zao rfl rfl rfl (fun h => ?_) fun h => ?_
 ·have h : ¬ zcj n es = 0 := by simpa using h
  rw [zk9 h]
  repeat (first | refine za6 ?_ | refine za0 rfl ?_ | refine za3 ?_ | refine za1 ?_ | refine zc5 rfl ?_ | refine zax ?_ | refine zam ?_ | refine za2 rfl ?_)
  exact zav ⟨.inr rfl, _, rfl, rfl⟩
 have h : zcj n es = 0 := by simpa using h
 obtain ⟨m, E, rfl, rfl, hm, _, hE, hb⟩ := zf7 h
 rw [zht h]
 have p44 := zun m hm E (by omega) hb
 repeat (first | refine za6 ?_ | refine za0 rfl ?_ | refine za3 ?_ | refine za1 ?_ | refine zad ?_ | refine zbp rfl ?_ | refine zap rfl rfl rfl rfl ?_)
 refine zau rfl rfl p44 (fun h => Bool.noConfusion (show false = true from h)) ?_
 repeat (first | refine za3 ?_ | refine za1 ?_ | refine zax ?_ | refine za2 rfl ?_)
 exact zav ⟨.inr rfl, _, rfl, rfl⟩
end Go.Proofs.Ytoagikifehmlpaa
namespace Go.Proofs.Ytoagikifehmlpaa
open Go Go.Am
def bgF (E : List (Nat × Nat)) (m : Nat) (e : Nat × Nat) : List (Nat × Nat) := if cpN E m e.1 = cpN E m e.2 then [] else [(cpN E m e.1, cpN E m e.2)]
def zgy (E : List (Nat × Nat)) (m : Nat) (l : List (Nat × Nat)) : List (Nat × Nat) := l.flatMap (bgF E m)
theorem zsb (E : List (Nat × Nat)) (m : Nat) (l : List (Nat × Nat)) (e : Nat × Nat) : zgy E m (l ++ [e]) = zgy E m l ++ bgF E m e := by
 unfold zgy
 rw [List.flatMap_append, List.flatMap_cons, List.flatMap_nil, List.append_nil]
theorem zk4 (E : List (Nat × Nat)) (m : Nat) : ∀ l, (zgy E m l).length ≤ l.length
 | [] => Nat.le_refl _
 | e :: l => by
  have := zk4 E m l
  have h1 : (bgF E m e).length ≤ 1 := by unfold bgF; split <;> simp
  unfold zgy at this ⊢
  rw [List.flatMap_cons, List.length_append, List.length_cons]
  omega
theorem zov {E : List (Nat × Nat)} {m a b : Nat} {l : List (Nat × Nat)} : (a, b) ∈ zgy E m l ↔ a ≠ b ∧ ∃ e ∈ l, cpN E m e.1 = a ∧ cpN E m e.2 = b := by
 unfold zgy
 rw [List.mem_flatMap]
 constructor
 ·rintro ⟨e, he, h⟩
  unfold bgF at h
  split at h
  ·exact absurd h List.not_mem_nil
  ·rename_i hne
   have h := List.mem_singleton.1 h
   injection h with h1 h2
   subst h1 h2
   exact ⟨hne, e, he, rfl, rfl⟩
 ·rintro ⟨hne, e, he, rfl, rfl⟩
  refine ⟨e, he, ?_⟩
  unfold bgF
  rw [if_neg hne]
  exact List.mem_singleton.2 rfl
theorem bigE_lt {E : List (Nat × Nat)} {m : Nat} (hb : ∀ u v, (u, v) ∈ E → u < m ∧ v < m) : ∀ u v, (u, v) ∈ zgy E m E → u < (rps E m m).length ∧ v < (rps E m m).length := fun u v h => by
 obtain ⟨_, e, he, rfl, rfl⟩ := zov.1 h
 have := hb e.1 e.2 he
 exact ⟨zjd hb this.1, zjd hb this.2⟩
def zqu (B : List (Nat × Nat)) (n i : Nat) : List (Nat × Nat) := (List.range i).flatMap fun v => (nbr B n v).map fun w => (v, w)
theorem zhv (B : List (Nat × Nat)) (n i : Nat) : zqu B n (i + 1) = zqu B n i ++ (nbr B n i).map fun w => (i, w) := by
 unfold zqu
 rw [List.range_succ, List.flatMap_append, List.flatMap_cons, List.flatMap_nil, List.append_nil]
theorem zh1 (B : List (Nat × Nat)) (n : Nat) : ∀ i, (zqu B n i).length ≤ i * n
 | 0 => Nat.zero_le _
 | i + 1 => by
  have := zh1 B n i
  have := zeo B n i
  rw [zhv, List.length_append, List.length_map, Nat.succ_mul]
  omega
theorem zhp (a b : List (Nat × Nat)) : zaj (a ++ b) = zaj a ++ zaj b := List.map_append ..
theorem zdm (a : List (Nat × Nat)) : (zaj a).length = a.length := List.length_map ..
end Go.Proofs.Ytoagikifehmlpaa
