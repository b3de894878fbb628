/-
  THE REFERENCE's ORDER: Leads, Looped, Order, Layers walked.
-/
import Derived.Test.YtoagikifehmlpaaFK4
import Derived.Test.YtoagikifehmlpaaFG2
namespace Go.Proofs.Ytoagikifehmlpaa
open Go Go.Am
def b69_0 : IC := .seq (.seq (.region [⟨(some 8), .mov (.t 7), none⟩,
  ⟨(some 9), .faddr 1 (.t 3), none⟩,
  ⟨(some 10), .load none (.t 9), none⟩,
  ⟨(some 11), .len false (.t 10), none⟩,
  ⟨(some 12), .bin .lss (.t 8) (.t 11), none⟩] none)
 (.cond (.t 12) (.skip)
 (.exit 0)))
 (.seq (.block 1 (.seq (.region [⟨(some 15), .faddr 1 (.t 3), none⟩,
  ⟨(some 16), .load none (.t 15), none⟩,
  ⟨(some 17), .mov (.t 7), none⟩,
  ⟨(some 18), .idxs 2 (.t 16) (.t 17), none⟩,
  ⟨(some 19), .faddr 0 (.t 18), none⟩,
  ⟨(some 20), .load none (.t 19), none⟩,
  ⟨(some 21), .mov (.t 1), none⟩,
  ⟨(some 22), .bin .eql (.t 20) (.t 21), none⟩,
  ⟨(some 23), .mov (.t 22), none⟩,
  ⟨(some 24), .load (some 2) (.t 3), some (23, true)⟩,
  ⟨(some 25), .faddr 1 (.t 3), some (23, true)⟩,
  ⟨(some 26), .load none (.t 25), some (23, true)⟩,
  ⟨(some 27), .mov (.t 7), some (23, true)⟩,
  ⟨(some 28), .idxs 2 (.t 26) (.t 27), some (23, true)⟩,
  ⟨(some 29), .faddr 1 (.t 28), some (23, true)⟩,
  ⟨(some 30), .load none (.t 29), some (23, true)⟩,
  ⟨(some 31), .call (.c (.fn 54 [] [])) [(.t 24), (.t 30)], some (23, true)⟩,
  ⟨(some 32), .mov (.t 2), some (23, true)⟩,
  ⟨(some 33), .idxs 1 (.t 31) (.t 32), some (23, true)⟩,
  ⟨(some 34), .load none (.t 33), some (23, true)⟩,
  ⟨(some 35), .bin .geq (.t 34) (.c (.int .i64 0)), some (23, true)⟩,
  ⟨(some 36), .pick (.t 23) (.t 35) (.c (.bool false)), none⟩] (some [[], [0], [], [1, 2], [3], [4], [], [5, 6], [7], [8], [8], [10, 8], [8], [11, 12, 8], [13, 8], [14, 8], [9, 15, 8, 8], [8], [16, 17, 8], [18, 8], [19, 8], [8, 20]]))
 (.cond (.t 36) (.seq (.region [⟨(some 6), .mov (.c (.bool true)), none⟩] none)
 (.ret))
 (.skip))))
 (.region [⟨(some 13), .mov (.t 7), none⟩,
  ⟨(some 14), .bin .add (.t 13) (.c (.int .i64 1)), none⟩,
  ⟨(some 7), .mov (.t 14), none⟩] none))
-- pneumatic/pneumaticref10.Leads
def ic69 : IC := .seq (.region [⟨(some 3), .box (.t 0), none⟩,
  ⟨(some 6), .mov (.c (.bool false)), none⟩] none)
 (.seq (.seq (.region [⟨(some 7), .mov (.c (.int .i64 0)), none⟩] none)
 (.block 0 (.loop b69_0)))
 (.seq (.region [⟨(some 6), .mov (.c (.bool false)), none⟩] none)
 (.ret)))
theorem fn69 : env0.fn 69 = some ⟨37, ic69, [.t 6]⟩ := by kernel_rfl
set_option maxHeartbeats 4000000 in
theorem leads69 (m : Nat) (hm : m ≤ 256) (E : List (Nat × Nat)) (hE : E.length ≤ 5000) (hb : ∀ u v, (u, v) ∈ E → u < m ∧ v < m) (v t : Nat) (ht : t < m) : PF Try.prog 69 [cG (m : Nat) (zai E), .int .i64 (v : Nat), .int .i64 (t : Nat)] (.bool (ldB E m v t)) := by
 have hcl : (cE (zai E)).length = E.length := by rw [zc2]; exact List.length_map ..
 refine zav env0_ok fn69 [(0, .agg [.int .i64 (m : Nat), .vs (cE (zai E))]), (1, .int .i64 (v : Nat)), (2, .int .i64 (t : Nat))] (by show 3 ≤ 37; decide) rfl fun w0 N0 => ?_
 unfold ic69
 refine za5 (za0 rfl (zd3 rfl rfl (za1 rfl (za3 (za2 ?_)))))
 refine zbf [] [(0, 0, [.int .i64 (m : Nat), .vs (cE (zai E))])] [(1, .int .i64 (v : Nat)), (2, .int .i64 (t : Nat)), (3, .vptr [.int .i64 (m : Nat), .vs (cE (zai E))])] rfl (.cons rfl rfl .nil) .nil (.cons rfl (.same rfl) (.cons rfl (.same rfl) (.cons rfl (.fptr rfl rfl) .nil))) ?_
 repeat (first | refine za5 ?_ | refine za0 rfl ?_ | refine za3 ?_ | refine za2 ?_ | refine zaa ?_ | refine za1 rfl ?_)
 refine zba (fun mm S => ∃ i, mm = E.length - i ∧ i ≤ E.length ∧ (∀ e ∈ E.take i, ¬ (e.1 = v ∧ gI (zcj E m e.2 m) t ≥ 0)) ∧ S = st 37 [(1, .int .i64 (v : Nat)), (2, .int .i64 (t : Nat)), (3, .vptr [.int .i64 (m : Nat), .vs (cE (zai E))]), (7, .int .i64 (i : Nat))] [] 0 1) E.length
  (za7 (.cons rfl (.cons rfl (.cons rfl (.cons rfl .nil))))) ⟨0, rfl, Nat.zero_le _, fun e h => absurd h (by simp), rfl⟩ ?_
 rintro mm S ⟨i, rfl, hi, hno, rfl⟩
 unfold b69_0
 repeat (first | refine za5 ?_ | refine za0 rfl ?_ | refine za1 rfl ?_ | refine zaf rfl rfl ?_ | refine zac rfl rfl rfl ?_ | refine zbg rfl rfl ?_)
 refine zam rfl rfl rfl (fun h3 => ?_) fun h3 => ?_
 ·have hlt : i < E.length := by
   have h4 : ((i : Nat) : Int) < (((cE (zai E)).length : Nat) : Int) := of_decide_eq_true h3
   omega
  have w1 : IntKind.wrap .i64 (((i : Nat) : Int) + 1) = ((i + 1 : Nat) : Int) := zak i (by omega)
  have hg := zdq hlt
  have hts : E.take (i + 1) = E.take i ++ [(E[i].1, E[i].2)] := by rw [List.take_add_one, List.getElem?_eq_getElem hlt]; rfl
  have hmm : (E[i].1, E[i].2) ∈ E := List.getElem_mem hlt
  generalize E[i].1 = a at *
  generalize E[i].2 = b at *
  obtain ⟨ha, hbm⟩ := hb a b hmm
  have p54 := far54 m hm E hE hb b hbm
  have hfl := zev E m b m
  have nx : ¬ (a = v ∧ gI (zcj E m b m) t ≥ 0) → ∀ e ∈ E.take (i + 1), ¬ (e.1 = v ∧ gI (zcj E m e.2 m) t ≥ 0) := fun h e he => by
   rw [hts, List.mem_append, List.mem_singleton] at he
   rcases he with he | he
   ·exact hno e he
   ·rw [he]; exact h
  have yes : a = v → gI (zcj E m b m) t ≥ 0 → ldB E m v t = true := fun h1 h2 => by
   unfold ldB
   rw [List.any_eq_true]
   exact ⟨(a, b), hmm, by rw [Bool.and_eq_true, beq_iff_eq, decide_eq_true_eq]; exact ⟨h1, h2⟩⟩
  generalize zcj E m b m = o at *
  have hgt : (o.map fun z => ([.int .i64 z] : List AV))[((t : Nat) : Int).toNat]? = some [.int .i64 (gI o t)] := by rw [zcv (by omega), zpo]
  repeat (first | refine za5 ?_ | refine za3 ?_ | refine za2 ?_ | refine zaa ?_ | refine zad ?_ | refine zbt rfl ?_)
  refine zkw env0_ok [(54, [cG (m : Nat) (zai E), .int .i64 (b : Nat)], vsI o)] (fun x hx => by
   obtain rfl := List.mem_singleton.1 hx
   exact p54) (fun f => Nat.beq f 54) rfl rfl rfl ?_
  repeat (first | refine za1 rfl ?_ | refine zaf rfl rfl ?_ | refine zac rfl rfl rfl ?_ | refine zb1 rfl rfl (by omega) (by assumption) rfl ?_)
  refine zam rfl rfl rfl (fun h4 => ?_) fun h4 => ?_
  ·have h4 : a = v := Int.ofNat_inj.1 (by simpa using h4)
   repeat (first | refine zd4 rfl ?_ | refine za1 rfl ?_ | refine zaf rfl rfl ?_ | refine zaq rfl rfl rfl rfl ?_ | refine zac rfl rfl rfl ?_ | refine zb1 rfl rfl (by omega) (by assumption) rfl ?_)
   refine zas rfl rfl zbv (fun h => Bool.noConfusion (show false = true from h)) ?_
   repeat (first | refine zd4 rfl ?_ | refine za1 rfl ?_ | refine zaf rfl rfl ?_ | refine zb1 rfl rfl (by omega) (by assumption) rfl ?_)
   refine zam rfl rfl rfl (fun h5 => ?_) fun h5 => ?_
   ·rw [yes h4 (of_decide_eq_true h5)]
    repeat (first | refine za5 ?_ | refine za0 rfl ?_ | refine za3 ?_ | refine za2 ?_ | refine zbt rfl ?_ | refine zat ?_ | refine zag ?_ | refine zb4 ?_ | refine za1 rfl ?_ | refine zal rfl rfl ?_)
    exact zao ⟨.inr rfl, _, rfl, rfl⟩
   ·have h5 : ¬ gI o t ≥ 0 := of_decide_eq_false h5
    repeat (first | refine za0 rfl ?_ | refine za3 ?_ | refine za2 ?_ | refine zb7 ?_ | refine zad ?_ | refine zbm rfl ?_ | refine za1 rfl ?_ | refine zal rfl rfl ?_ | refine zaz (op := .add) rfl rfl rfl ?_)
    rw [w1]
    exact zaj (show E.length - (i + 1) < E.length - i by omega) (za7 (.cons rfl (.cons rfl (.cons rfl (.cons rfl .nil))))) ⟨i + 1, rfl, hlt, nx fun e => h5 e.2, rfl⟩
  ·have h4 : ¬ a = v := fun e => (show ¬ ((a : Nat) : Int) = (v : Nat) by simpa using h4) (by rw [e])
   repeat (first | refine za0 rfl ?_ | refine za3 ?_ | refine za2 ?_ | refine zb7 ?_ | refine zad ?_ | refine zbm rfl ?_ | refine zik rfl rfl ?_ | refine za1 rfl ?_ | refine zax rfl rfl ?_ | refine zaz (op := .add) rfl rfl rfl ?_)
   rw [w1]
   exact zaj (show E.length - (i + 1) < E.length - i by omega) (za7 (.cons rfl (.cons rfl (.cons rfl (.cons rfl .nil))))) ⟨i + 1, rfl, hlt, nx fun e => h4 e.1, rfl⟩
 ·have hie : i = E.length := by
   have h4 : ¬ ((i : Nat) : Int) < (((cE (zai E)).length : Nat) : Int) := of_decide_eq_false h3
   omega
  subst hie
  rw [List.take_length] at hno
  rw [show ldB E m v t = false from by
   cases hc : ldB E m v t with
   | false => rfl
   | true =>
    unfold ldB at hc
    obtain ⟨e, he, h⟩ := List.any_eq_true.1 hc
    rw [Bool.and_eq_true, beq_iff_eq, decide_eq_true_eq] at h
    exact absurd h (hno e he)]
  repeat (first | refine za3 ?_ | refine za2 ?_ | refine zbm rfl ?_ | refine zb9 ?_ | refine zab ?_)
  refine zc8 ?_
  repeat (first | refine za5 ?_ | refine za0 rfl ?_ | refine za3 ?_ | refine za2 ?_ | refine zat ?_ | refine zb8 ?_ | refine za1 rfl ?_)
  exact zao ⟨.inr rfl, _, rfl, rfl⟩
def b57_0 : IC := .seq (.seq (.region [⟨(some 4), .mov (.t 3), none⟩,
  ⟨(some 5), .faddr 0 (.t 1), none⟩,
  ⟨(some 6), .load none (.t 5), none⟩,
  ⟨(some 7), .bin .lss (.t 4) (.t 6), none⟩] none)
 (.cond (.t 7) (.skip)
 (.exit 0)))
 (.seq (.block 1 (.seq (.region [⟨(some 10), .load (some 2) (.t 1), none⟩,
  ⟨(some 11), .mov (.t 3), none⟩,
  ⟨(some 12), .mov (.t 3), none⟩,
  ⟨(some 13), .call (.c (.fn 69 [] [])) [(.t 10), (.t 11), (.t 12)], none⟩] none)
 (.cond (.t 13) (.seq (.region [⟨(some 14), .mov (.t 3), none⟩,
  ⟨(some 2), .mov (.t 14), none⟩] none)
 (.ret))
 (.skip))))
 (.region [⟨(some 8), .mov (.t 3), none⟩,
  ⟨(some 9), .bin .add (.t 8) (.c (.int .i64 1)), none⟩,
  ⟨(some 3), .mov (.t 9), none⟩] none))
-- pneumatic/pneumaticref10.Looped
def ic57 : IC := .seq (.region [⟨(some 1), .box (.t 0), none⟩,
  ⟨(some 2), .mov (.c (.int .i64 0)), none⟩] none)
 (.seq (.seq (.region [⟨(some 3), .mov (.c (.int .i64 0)), none⟩] none)
 (.block 0 (.loop b57_0)))
 (.seq (.region [⟨(some 2), .mov (.c (.int .i64 (-1))), none⟩] none)
 (.ret)))
theorem fn57 : env0.fn 57 = some ⟨15, ic57, [.t 2]⟩ := by kernel_rfl
set_option maxHeartbeats 2000000 in
theorem zk8 (m : Nat) (hm : m ≤ 256) (E : List (Nat × Nat)) (hE : E.length ≤ 5000) (hb : ∀ u v, (u, v) ∈ E → u < m ∧ v < m) : PF Try.prog 57 [cG (m : Nat) (zai E)] (.int .i64 (nxV (lpS E m))) := by
 refine zav env0_ok fn57 [(0, .agg [.int .i64 (m : Nat), .vs (cE (zai E))])] (by show 1 ≤ 15; decide) rfl fun w0 N0 => ?_
 unfold ic57
 refine za5 (za0 rfl (zd3 rfl rfl (za1 rfl (za3 (za2 ?_)))))
 refine zbf [] [(0, 0, [.int .i64 (m : Nat), .vs (cE (zai E))])] [(1, .vptr [.int .i64 (m : Nat), .vs (cE (zai E))])] rfl (.cons rfl rfl .nil) .nil (.cons rfl (.fptr rfl rfl) .nil) ?_
 repeat (first | refine za5 ?_ | refine za0 rfl ?_ | refine za3 ?_ | refine za2 ?_ | refine zaa ?_ | refine za1 rfl ?_)
 have h0 : dnx (fun v => ldB E m v v) m 0 = nxV (lpS E m) := by
  unfold dnx lpS nxV
  rw [List.drop_zero]
  rfl
 refine zba (fun mm S => ∃ i, mm = m - i ∧ i ≤ m ∧ dnx (fun v => ldB E m v v) m i = nxV (lpS E m) ∧ S = st 15 [(1, .vptr [.int .i64 (m : Nat), .vs (cE (zai E))]), (3, .int .i64 (i : Nat))] [] 0 1) m
  (za7 (.cons rfl (.cons rfl .nil))) ⟨0, rfl, Nat.zero_le _, h0, rfl⟩ ?_
 rintro mm S ⟨i, rfl, hi, hd, rfl⟩
 unfold b57_0
 repeat (first | refine za5 ?_ | refine za0 rfl ?_ | refine za1 rfl ?_ | refine zaf rfl rfl ?_ | refine zac rfl rfl rfl ?_)
 refine zam rfl rfl rfl (fun h3 => ?_) fun h3 => ?_
 ·have hlt : i < m := Int.ofNat_lt.1 (of_decide_eq_true h3)
  have w1 : IntKind.wrap .i64 (((i : Nat) : Int) + 1) = ((i + 1 : Nat) : Int) := zak i (by omega)
  have p69 := leads69 m hm E hE hb i i hlt
  rw [zfr hlt] at hd
  repeat (first | refine za5 ?_ | refine za0 rfl ?_ | refine za3 ?_ | refine za2 ?_ | refine zaa ?_ | refine zad ?_ | refine zbt rfl ?_ | refine za1 rfl ?_ | refine zaq rfl rfl rfl rfl ?_)
  refine zas rfl rfl p69 (fun h => Bool.noConfusion (show false = true from h)) ?_
  cases hc : ldB E m i i with
  | true =>
   rw [hc, if_pos rfl] at hd
   rw [← hd]
   repeat (first | refine za5 ?_ | refine za0 rfl ?_ | refine za3 ?_ | refine za2 ?_ | refine zbt rfl ?_ | refine zat ?_ | refine zag ?_ | refine zb4 ?_ | refine za1 rfl ?_)
   exact zao ⟨.inr rfl, _, rfl, rfl⟩
  | false =>
   rw [hc, if_neg Bool.false_ne_true] at hd
   repeat (first | refine za0 rfl ?_ | refine za3 ?_ | refine za2 ?_ | refine zb7 ?_ | refine zad ?_ | refine zbm rfl ?_ | refine za1 rfl ?_ | refine zaz (op := .add) rfl rfl rfl ?_)
   rw [w1]
   exact zaj (show m - (i + 1) < m - i by omega) (za7 (.cons rfl (.cons rfl .nil))) ⟨i + 1, rfl, hlt, hd, rfl⟩
 ·have hie : i = m := by
   have h4 : ¬ ((i : Nat) : Int) < ((m : Nat) : Int) := of_decide_eq_false h3
   omega
  subst hie
  rw [zhi] at hd
  rw [← hd]
  repeat (first | refine za3 ?_ | refine za2 ?_ | refine zbm rfl ?_ | refine zb9 ?_ | refine zab ?_)
  refine zc8 ?_
  repeat (first | refine za5 ?_ | refine za0 rfl ?_ | refine za3 ?_ | refine za2 ?_ | refine zat ?_ | refine zb8 ?_ | refine za1 rfl ?_)
  exact zao ⟨.inr rfl, _, rfl, rfl⟩
-- pneumatic/pneumaticref10.Order
def ic37 : IC := .seq (.region [⟨(some 1), .box (.t 0), none⟩,
  ⟨(some 2), .mov (.c (.nils)), none⟩,
  ⟨(some 3), .mov (.c (.int .i64 0)), none⟩] none)
 (.seq (.seq (.region [⟨(some 5), .load (some 2) (.t 1), none⟩,
  ⟨(some 6), .call (.c (.fn 35 [] [])) [(.t 5)], none⟩,
  ⟨(some 4), .mov (.t 6), none⟩] none)
 (.seq (.region [⟨(some 7), .mov (.t 4), none⟩,
  ⟨(some 8), .bin .neq (.t 7) (.c (.int .i64 0)), none⟩] none)
 (.cond (.t 8) (.seq (.region [⟨(some 9), .mov (.t 4), none⟩,
  ⟨(some 2), .mov (.c (.nils)), none⟩,
  ⟨(some 3), .mov (.t 9), none⟩] none)
 (.ret))
 (.skip))))
 (.seq (.seq (.region [⟨(some 10), .load (some 2) (.t 1), none⟩,
  ⟨(some 11), .call (.c (.fn 57 [] [])) [(.t 10)], none⟩,
  ⟨(some 12), .bin .geq (.t 11) (.c (.int .i64 0)), none⟩] none)
 (.cond (.t 12) (.seq (.region [⟨(some 2), .mov (.c (.nils)), none⟩,
  ⟨(some 3), .mov (.c (.int .i64 20)), none⟩] none)
 (.ret))
 (.skip)))
 (.seq (.region [⟨(some 13), .load (some 2) (.t 1), none⟩,
  ⟨(some 14), .call (.c (.fn 59 [] [])) [(.t 13)], none⟩,
  ⟨(some 2), .mov (.t 14), none⟩,
  ⟨(some 3), .mov (.c (.int .i64 0)), none⟩] none)
 (.ret))))
theorem fn37 : env0.fn 37 = some ⟨15, ic37, [.t 2, .t 3]⟩ := by kernel_rfl
set_option maxHeartbeats 2000000 in
theorem order37 (n : Int) (es : List (Int × Int)) : PF Try.prog 37 [cG n es] (ordV n es) := by
 have p35 := zmj n es
 refine zav env0_ok fn37 [(0, .agg [.int .i64 n, .vs (cE es)])] (by show 1 ≤ 15; decide) rfl fun w0 N0 => ?_
 unfold ic37
 refine za5 (za0 rfl (zd3 rfl rfl (za1 rfl (za1 rfl (za3 (za2 ?_))))))
 refine zbf [] [(0, 0, [.int .i64 n, .vs (cE es)])] [(1, .vptr [.int .i64 n, .vs (cE es)])] rfl (.cons rfl rfl .nil) .nil (.cons rfl (.fptr rfl rfl) .nil) ?_
 repeat (first | refine za5 ?_ | refine za0 rfl ?_ | refine zaq rfl rfl rfl rfl ?_)
 refine zas rfl rfl p35 (fun h => Bool.noConfusion (show false = true from h)) ?_
 repeat (first | refine za5 ?_ | refine za0 rfl ?_ | refine za3 ?_ | refine za2 ?_ | refine za1 rfl ?_)
 refine zam rfl rfl rfl (fun h => ?_) fun h => ?_
 ·have h : ¬ zd7 n es = 0 := by simpa using h
  rw [zke h]
  repeat (first | refine za5 ?_ | refine za0 rfl ?_ | refine za3 ?_ | refine za2 ?_ | refine zbt rfl ?_ | refine zat ?_ | refine zag ?_ | refine za1 rfl ?_)
  exact zao ⟨.inr rfl, _, rfl, rfl⟩
 have h : zd7 n es = 0 := by simpa using h
 obtain ⟨m, E, rfl, rfl, hm, _, hE, hb⟩ := zf5 h
 rw [zne h]
 have p57 := zk8 m hm E (by omega) hb
 have hls := lp_srt hb
 unfold ordN
 repeat (first | refine za5 ?_ | refine za0 rfl ?_ | refine za3 ?_ | refine za2 ?_ | refine zad ?_ | refine zbm rfl ?_ | refine zaq rfl rfl rfl rfl ?_)
 refine zas rfl rfl p57 (fun h => Bool.noConfusion (show false = true from h)) ?_
 cases hl : lpS E m with
 | some x =>
  have hs : zgr E m m [] = none := by
   cases hs : zgr E m m [] with
   | none => rfl
   | some l => rw [hls.2 ⟨l, hs⟩] at hl; cases hl
  rw [hs, show nxV (some x) = ((x : Nat) : Int) from rfl]
  refine zfy rfl rfl (by show some (AV.bool (decide (((x : Nat) : Int) ≥ 0))) = _; rw [decide_eq_true (by omega)]) ?_
  repeat (first | refine za5 ?_ | refine za0 rfl ?_ | refine za3 ?_ | refine za2 ?_ | refine zbt rfl ?_ | refine zat ?_ | refine zag ?_ | refine za1 rfl ?_)
  exact zao ⟨.inr rfl, _, rfl, rfl⟩
 | none =>
  obtain ⟨l, hs⟩ := hls.1 hl
  have p59 := sorted59 m hm E (by omega) l hs
  rw [hs]
  refine zef rfl rfl rfl ?_
  repeat (first | refine za5 ?_ | refine za0 rfl ?_ | refine za3 ?_ | refine za2 ?_ | refine zad ?_ | refine zbm rfl ?_ | refine zaq rfl rfl rfl rfl ?_)
  refine zas rfl rfl p59 (fun h => Bool.noConfusion (show false = true from h)) ?_
  repeat (first | refine za3 ?_ | refine za2 ?_ | refine zat ?_ | refine za1 rfl ?_)
  exact zao ⟨.inr rfl, _, rfl, rfl⟩
def b39_2 : IC := .seq (.seq (.region [⟨(some 26), .mov (.t 7), none⟩,
  ⟨(some 27), .faddr 1 (.t 1), none⟩,
  ⟨(some 28), .load none (.t 27), none⟩,
  ⟨(some 29), .len false (.t 28), none⟩,
  ⟨(some 30), .bin .lss (.t 26) (.t 29), none⟩] none)
 (.cond (.t 30) (.skip)
 (.exit 2)))
 (.seq (.block 3 (.seq (.region [⟨(some 33), .faddr 1 (.t 1), none⟩,
  ⟨(some 34), .load none (.t 33), none⟩,
  ⟨(some 35), .mov (.t 7), none⟩,
  ⟨(some 36), .idxs 2 (.t 34) (.t 35), none⟩,
  ⟨(some 37), .load (some 2) (.t 36), none⟩,
  ⟨(some 8), .alloc [.int .i64 0, .int .i64 0], none⟩,
  ⟨none, .store 2 (.t 8) (.t 37), none⟩] none)
 (.region [⟨(some 38), .mov (.t 5), none⟩,
  ⟨(some 39), .faddr 1 (.t 8), none⟩,
  ⟨(some 40), .load none (.t 39), none⟩,
  ⟨(some 41), .mov (.t 5), none⟩,
  ⟨(some 42), .faddr 1 (.t 8), none⟩,
  ⟨(some 43), .load none (.t 42), none⟩,
  ⟨(some 44), .idxs 1 (.t 41) (.t 43), none⟩,
  ⟨(some 45), .load none (.t 44), none⟩,
  ⟨(some 46), .mov (.t 5), none⟩,
  ⟨(some 47), .faddr 0 (.t 8), none⟩,
  ⟨(some 48), .load none (.t 47), none⟩,
  ⟨(some 49), .idxs 1 (.t 46) (.t 48), none⟩,
  ⟨(some 50), .load none (.t 49), none⟩,
  ⟨(some 51), .bin .add (.t 50) (.c (.int .i64 1)), none⟩,
  ⟨(some 52), .minmax true [(.t 45), (.t 51)], none⟩,
  ⟨(some 53), .idxs 1 (.t 38) (.t 40), none⟩,
  ⟨none, .store 1 (.t 53) (.t 52), none⟩] (some [[], [], [1], [], [], [4], [3, 5], [6], [], [], [9], [8, 10], [11], [12], [7, 13], [0, 2, 0, 1, 2, 3, 4, 5, 6, 7, 8, 9, 10, 11, 12, 13, 14], [15, 14, 0, 1, 2, 3, 4, 5, 6, 7, 8, 9, 10, 11, 12, 13, 14]]))))
 (.region [⟨(some 31), .mov (.t 7), none⟩,
  ⟨(some 32), .bin .add (.t 31) (.c (.int .i64 1)), none⟩,
  ⟨(some 7), .mov (.t 32), none⟩] none))
def b39_0 : IC := .seq (.seq (.region [⟨(some 20), .mov (.t 6), none⟩,
  ⟨(some 21), .faddr 0 (.t 1), none⟩,
  ⟨(some 22), .load none (.t 21), none⟩,
  ⟨(some 23), .bin .lss (.t 20) (.t 22), none⟩] none)
 (.cond (.t 23) (.skip)
 (.exit 0)))
 (.seq (.block 1 (.seq (.region [⟨(some 7), .mov (.c (.int .i64 0)), none⟩] none)
 (.block 2 (.loop b39_2))))
 (.region [⟨(some 24), .mov (.t 6), none⟩,
  ⟨(some 25), .bin .add (.t 24) (.c (.int .i64 1)), none⟩,
  ⟨(some 6), .mov (.t 25), none⟩] none))
-- pneumatic/pneumaticref10.Layers
def ic39 : IC := .seq (.region [⟨(some 1), .box (.t 0), none⟩,
  ⟨(some 2), .mov (.c (.nils)), none⟩,
  ⟨(some 3), .mov (.c (.int .i64 0)), none⟩] none)
 (.seq (.seq (.region [⟨(some 9), .load (some 2) (.t 1), none⟩,
  ⟨(some 10), .call (.c (.fn 35 [] [])) [(.t 9)], none⟩,
  ⟨(some 4), .mov (.t 10), none⟩] none)
 (.seq (.region [⟨(some 11), .mov (.t 4), none⟩,
  ⟨(some 12), .bin .neq (.t 11) (.c (.int .i64 0)), none⟩] none)
 (.cond (.t 12) (.seq (.region [⟨(some 13), .mov (.t 4), none⟩,
  ⟨(some 2), .mov (.c (.nils)), none⟩,
  ⟨(some 3), .mov (.t 13), none⟩] none)
 (.ret))
 (.skip))))
 (.seq (.seq (.region [⟨(some 14), .load (some 2) (.t 1), none⟩,
  ⟨(some 15), .call (.c (.fn 57 [] [])) [(.t 14)], none⟩,
  ⟨(some 16), .bin .geq (.t 15) (.c (.int .i64 0)), none⟩] none)
 (.cond (.t 16) (.seq (.region [⟨(some 2), .mov (.c (.nils)), none⟩,
  ⟨(some 3), .mov (.c (.int .i64 20)), none⟩] none)
 (.ret))
 (.skip)))
 (.seq (.region [⟨(some 17), .faddr 0 (.t 1), none⟩,
  ⟨(some 18), .load none (.t 17), none⟩,
  ⟨(some 19), .mkslice 1 8 [.int .i64 0] (.t 18) (.t 18), none⟩,
  ⟨(some 5), .mov (.t 19), none⟩] none)
 (.seq (.seq (.region [⟨(some 6), .mov (.c (.int .i64 0)), none⟩] none)
 (.block 0 (.loop b39_0)))
 (.seq (.region [⟨(some 54), .mov (.t 5), none⟩,
  ⟨(some 2), .mov (.t 54), none⟩,
  ⟨(some 3), .mov (.c (.int .i64 0)), none⟩] none)
 (.ret))))))
theorem fn39 : env0.fn 39 = some ⟨55, ic39, [.t 2, .t 3]⟩ := by kernel_rfl
set_option maxHeartbeats 8000000 in
theorem layers39 (n : Int) (es : List (Int × Int)) : PF Try.prog 39 [cG n es] (layV n es) := by
 have ez : ∀ o : Nat, 0 + ((o : Nat) : Int).toNat * 1 = o := fun o => by simp
 have p35 := zmj n es
 refine zav env0_ok fn39 [(0, .agg [.int .i64 n, .vs (cE es)])] (by show 1 ≤ 55; decide) rfl fun w0 N0 => ?_
 unfold ic39
 refine za5 (za0 rfl (zd3 rfl rfl (za1 rfl (za1 rfl (za3 (za2 ?_))))))
 refine zbf [] [(0, 0, [.int .i64 n, .vs (cE es)])] [(1, .vptr [.int .i64 n, .vs (cE es)])] rfl (.cons rfl rfl .nil) .nil (.cons rfl (.fptr rfl rfl) .nil) ?_
 repeat (first | refine za5 ?_ | refine za0 rfl ?_ | refine zaq rfl rfl rfl rfl ?_)
 refine zas rfl rfl p35 (fun h => Bool.noConfusion (show false = true from h)) ?_
 repeat (first | refine za5 ?_ | refine za0 rfl ?_ | refine za3 ?_ | refine za2 ?_ | refine za1 rfl ?_)
 refine zam rfl rfl rfl (fun h => ?_) fun h => ?_
 ·have h : ¬ zd7 n es = 0 := by simpa using h
  rw [zk4 h]
  repeat (first | refine za5 ?_ | refine za0 rfl ?_ | refine za3 ?_ | refine za2 ?_ | refine zbt rfl ?_ | refine zat ?_ | refine zag ?_ | refine za1 rfl ?_)
  exact zao ⟨.inr rfl, _, rfl, rfl⟩
 have h : zd7 n es = 0 := by simpa using h
 obtain ⟨m, E, rfl, rfl, hm, _, hE, hb⟩ := zf5 h
 have hcl : (cE (zai E)).length = E.length := by rw [zc2]; exact List.length_map ..
 rw [zn6 h]
 have p57 := zk8 m hm E (by omega) hb
 have hls := lp_srt hb
 unfold layN
 repeat (first | refine za5 ?_ | refine za0 rfl ?_ | refine za3 ?_ | refine za2 ?_ | refine zad ?_ | refine zbm rfl ?_ | refine zaq rfl rfl rfl rfl ?_)
 refine zas rfl rfl p57 (fun h => Bool.noConfusion (show false = true from h)) ?_
 cases hl : lpS E m with
 | some x =>
  have hs : zgr E m m [] = none := by
   cases hs : zgr E m m [] with
   | none => rfl
   | some l => rw [hls.2 ⟨l, hs⟩] at hl; cases hl
  rw [hs, show nxV (some x) = ((x : Nat) : Int) from rfl]
  refine zfy rfl rfl (by show some (AV.bool (decide (((x : Nat) : Int) ≥ 0))) = _; rw [decide_eq_true (by omega)]) ?_
  repeat (first | refine za5 ?_ | refine za0 rfl ?_ | refine za3 ?_ | refine za2 ?_ | refine zbt rfl ?_ | refine zat ?_ | refine zag ?_ | refine za1 rfl ?_)
  exact zao ⟨.inr rfl, _, rfl, rfl⟩
 | none =>
  obtain ⟨l, hs⟩ := hls.1 hl
  rw [hs]
  obtain ⟨hT, hll, _⟩ := zh4 hs
  have hLay := layS_lay hb hT (Nat.le_of_eq hll.symm)
  have hLE := layR_eq hLay hb
  have hLle := lay_le hLay
  have hLlo := hLay.low
  have hmid : ∀ r, r ≤ m → ∀ v, gZ (zgw E m r) v ≤ gZ (zsn E m l) v := fun r _ v => zn5 hLay hb r v
  have hlow : ∀ r v, 0 ≤ gZ (zgw E m r) v := fun r v => zok hLay hb r v
  refine zef rfl rfl rfl ?_
  repeat (first | refine za5 ?_ | refine za0 rfl ?_ | refine za3 ?_ | refine za2 ?_ | refine zad ?_ | refine zbm rfl ?_ | refine zaf rfl rfl ?_ | refine zac rfl rfl rfl ?_)
  refine zt2 rfl rfl ⟨Int.natCast_nonneg m, Int.le_refl _, by omega, by decide⟩ ?_
  repeat (first | refine za5 ?_ | refine za0 rfl ?_ | refine za3 ?_ | refine za2 ?_ | refine zaa ?_ | refine za1 rfl ?_)
  refine zba (fun mm S => ∃ r hp nx ck, mm = m - r ∧ r ≤ m ∧ 0 < nx ∧ Am.look 0 hp = some (1, .cells ((zgw E m r).map (AV.int .i64))) ∧ S = st 55 [(1, .vptr [.int .i64 (m : Nat), .vs (cE (zai E))]), (5, .ms 0 1 1 0 m (some m)), (6, .int .i64 (r : Nat))] hp nx ck) m
   (za7 (.cons rfl (.cons rfl (.cons rfl .nil)))) ⟨0, _, _, _, rfl, Nat.zero_le _, Nat.zero_lt_one, by show some (1, AObj.cells (zeo m [.int .i64 0])) = _; rw [zi9]; rfl, rfl⟩ ?_
  rintro mm S ⟨r, hp, nx, ck, rfl, hr, hnx, hk, rfl⟩
  unfold b39_0
  repeat (first | refine za5 ?_ | refine za0 rfl ?_ | refine za1 rfl ?_ | refine zaf rfl rfl ?_ | refine zac rfl rfl rfl ?_)
  refine zam rfl rfl rfl (fun h3 => ?_) fun h3 => ?_
  ·have hlt : r < m := Int.ofNat_lt.1 (of_decide_eq_true h3)
   have wr : IntKind.wrap .i64 (((r : Nat) : Int) + 1) = ((r + 1 : Nat) : Int) := zak r (by omega)
   have hms := fun j => zkk hLay hb (zey E m r) (hmid r hr) (E.take j) fun e he => List.mem_of_mem_take he
   have hlr := hlow r
   repeat (first | refine za5 ?_ | refine za0 rfl ?_ | refine za3 ?_ | refine za2 ?_ | refine zaa ?_ | refine zad ?_ | refine zbt rfl ?_ | refine za1 rfl ?_)
   refine zba (fun mm S => ∃ j hp nx ck, mm = E.length - j ∧ j ≤ E.length ∧ 0 < nx ∧ Am.look 0 hp = some (1, .cells (((E.take j).foldl rlx (zgw E m r)).map (AV.int .i64))) ∧ S = st 55 [(1, .vptr [.int .i64 (m : Nat), .vs (cE (zai E))]), (5, .ms 0 1 1 0 m (some m)), (6, .int .i64 (r : Nat)), (7, .int .i64 (j : Nat))] hp nx ck) E.length
    (za7 (.cons rfl (.cons rfl (.cons rfl (.cons rfl .nil))))) ⟨0, _, _, _, rfl, Nat.zero_le _, hnx, hk, rfl⟩ ?_
   rintro mm S ⟨j, hp, nx, ck, rfl, hj, hnx, hk, rfl⟩
   obtain ⟨hol, hup, hdn, _⟩ := hms j
   unfold b39_2
   repeat (first | refine za5 ?_ | refine za0 rfl ?_ | refine za1 rfl ?_ | refine zaf rfl rfl ?_ | refine zac rfl rfl rfl ?_ | refine zbg rfl rfl ?_)
   refine zam rfl rfl rfl (fun h4 => ?_) fun h4 => ?_
   ·have hlt2 : j < E.length := by
     have h5 : ((j : Nat) : Int) < (((cE (zai E)).length : Nat) : Int) := of_decide_eq_true h4
     omega
    have w1 : IntKind.wrap .i64 (((j : Nat) : Int) + 1) = ((j + 1 : Nat) : Int) := zak j (by omega)
    have hg := zdq hlt2
    obtain ⟨ha, hb3⟩ := hb _ _ (List.getElem_mem hlt2 : (E[j].1, E[j].2) ∈ E)
    have hst : (E.take (j + 1)).foldl rlx (zgw E m r) = rlx ((E.take j).foldl rlx (zgw E m r)) (E[j].1, E[j].2) := zdv rlx (zgw E m r) hlt2
    generalize (E.take j).foldl rlx (zgw E m r) = o at *
    generalize E[j].1 = a at *
    generalize E[j].2 = b at *
    have w3 : IntKind.wrap .i64 (gZ o a + 1) = gZ o a + 1 := zch _ (by have := hlr a; have := hdn a; omega) (by have := hup a; have := hLle a; omega)
    repeat (first | refine za5 ?_ | refine za0 rfl ?_ | refine za3 ?_ | refine za2 ?_ | refine zaa ?_ | refine zad ?_ | refine zbt rfl ?_ | refine za1 rfl ?_ | refine zaf rfl rfl ?_ | refine zaq rfl rfl rfl rfl ?_ | refine zac rfl rfl rfl ?_ | refine ze8 ?_ | refine zb1 rfl rfl (by omega) (by assumption) rfl ?_)
    refine zdo (id := nx) (sp := ck) (off := 0) rfl rfl rfl rfl zb6 rfl rfl ?_
    have k0 : Am.look 0 (zcc nx (ck, AObj.cells [.int .i64 (a : Nat), .int .i64 (b : Nat)]) ((nx, ck, AObj.cells [.int .i64 0, .int .i64 0]) :: hp)) = some (1, .cells (o.map (AV.int .i64))) := by
     rw [za8, if_neg (by omega), za9, if_neg (by omega)]
     exact hk
    have k5 : Am.look nx (zcc nx (ck, AObj.cells [.int .i64 (a : Nat), .int .i64 (b : Nat)]) ((nx, ck, AObj.cells [.int .i64 0, .int .i64 0]) :: hp)) = some (ck, .cells [.int .i64 (a : Nat), .int .i64 (b : Nat)]) := by
     rw [za8, if_pos rfl]
    repeat (first | refine za3 ?_ | refine za2 ?_ | refine za1 rfl ?_ | refine zbz rfl ?_ | refine zg5 env0_ok rfl rfl rfl ?_)
    refine zau (id := nx) (sp := ck) (off := 0 + 1) rfl k5 (Nat.lt_succ_self _) rfl ?_
    repeat (first | refine za1 rfl ?_ | refine zbz rfl ?_)
    refine zau (id := nx) (sp := ck) (off := 0 + 1) rfl k5 (Nat.lt_succ_self _) rfl ?_
    repeat (first | refine zb2 rfl rfl (by omega) (by omega) ?_)
    rw [ez]
    refine zau (id := 0) (sp := 1) (off := b) rfl k0 (Nat.succ_pos _) (ziq (by omega)) ?_
    repeat (first | refine za1 rfl ?_ | refine zbz rfl ?_)
    refine zau (id := nx) (sp := ck) (off := 0) rfl k5 (Nat.lt_succ_self _) rfl ?_
    repeat (first | refine zb2 rfl rfl (by omega) (by omega) ?_)
    rw [ez]
    refine zau (id := 0) (sp := 1) (off := a) rfl k0 (Nat.succ_pos _) (ziq (by omega)) ?_
    repeat (first | refine zlw rfl rfl rfl ?_ | refine zaz (op := .add) rfl rfl rfl ?_ | refine zb2 rfl rfl (by omega) (by omega) ?_)
    rw [ez, w3, if_pos rfl, show (if gZ o a + 1 > gZ o b then gZ o a + 1 else gZ o b) = max (gZ o b) (gZ o a + 1) from by split <;> omega]
    refine zc7 (id := 0) (sp := 1) (off := b) rfl rfl rfl k0 (by simp; omega) rfl ?_
    repeat (first | refine za0 rfl ?_ | refine za3 ?_ | refine za2 ?_ | refine zb7 ?_ | refine za1 rfl ?_ | refine zaz (op := .add) rfl rfl rfl ?_)
    rw [w1]
    exact zaj (show E.length - (j + 1) < E.length - j by omega) (za7 (.cons rfl (.cons rfl (.cons rfl (.cons rfl .nil))))) ⟨j + 1, _, _, _, rfl, hlt2, Nat.succ_pos _, by rw [za8, if_pos rfl, ← List.map_set, hst]; rfl, rfl⟩
   ·have hje : j = E.length := by
     have h5 : ¬ ((j : Nat) : Int) < (((cE (zai E)).length : Nat) : Int) := of_decide_eq_false h4
     omega
    subst hje
    rw [List.take_length, ← zem] at hk
    repeat (first | refine za3 ?_ | refine za2 ?_ | refine zbm rfl ?_ | refine zb9 ?_ | refine zab ?_)
    refine zc8 ?_
    repeat (first | refine za0 rfl ?_ | refine za3 ?_ | refine za2 ?_ | refine zb7 ?_ | refine zb8 ?_ | refine za1 rfl ?_ | refine zaz (op := .add) rfl rfl rfl ?_)
    rw [wr]
    exact zaj (show m - (r + 1) < m - r by omega) (za7 (.cons rfl (.cons rfl (.cons rfl .nil)))) ⟨r + 1, _, _, _, rfl, hlt, hnx, hk, rfl⟩
  ·have hre : r = m := by
    have h4 : ¬ ((r : Nat) : Int) < ((m : Nat) : Int) := of_decide_eq_false h3
    omega
   subst hre
   rw [hLE] at hk
   repeat (first | refine za3 ?_ | refine za2 ?_ | refine zbm rfl ?_ | refine zb9 ?_ | refine zab ?_)
   refine zc8 ?_
   repeat (first | refine za5 ?_ | refine za0 rfl ?_ | refine za3 ?_ | refine za2 ?_ | refine zat ?_ | refine zb8 ?_ | refine za1 rfl ?_)
   refine zao ⟨.inr rfl, _, rfl, ?_⟩
   exact congrArg AV.tup (zfe (zbl _ hLay.len hk) rfl)
end Go.Proofs.Ytoagikifehmlpaa
