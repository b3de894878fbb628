/-
  THE PROGRAM OF STROKES: homing.Program.
-/
import Derived.Test.YtoiblgbaeglgoaaYH24
namespace Go.Proofs.Ytoiblgbaeglgoaa
open Go Go.Am

def progE (l : List Ex) (n : Nat) (D : List Int) (k : Nat) : Int := if D.getD k 0 < 0 then -2 else if D.getD k 0 = 0 then -1 else match (mv l n k).find? (down n D k) with
  | some i => (i : Int)
  | none => -1

def progT (l : List Ex) (n : Nat) (D : List Int) (k : Nat) : List Int := (List.range k).map (progE l n D)

theorem progT_len (l : List Ex) (n : Nat) (D : List Int) (k : Nat) : (progT l n D k).length = k := by unfold progT; rw [List.length_map, List.length_range]

theorem progT_succ (l : List Ex) (n : Nat) (D : List Int) (k : Nat) : progT l n D (k + 1) = progT l n D k ++ [progE l n D k] := by
  unfold progT
  rw [List.range_succ, List.map_append]
  rfl

def progV (l : List Ex) (n : Int) : AV := if guardC l n = 0 then .tup [vsI (progT l n.toNat (levL l n.toNat) (2 ^ n.toNat)), .int .i64 0] else .tup [vsI [], .int .i64 (guardC l n)]

theorem firstV_form {l : List Ex} {n k : Nat} {D : List Int} (h1 : 1 ≤ n) (h4 : n ≤ 4) (hD : LevW l n D) (hk : k < 2 ^ n) : ∃ (a : Int) (o b : Bool), firstV l n D k = .tup [.agg [.int .i64 a, .bool o], .bool b] ∧ (0 < D.getD k 0 → b = true ∧ progE l n D k = a) := by
  unfold firstV progE
  cases hf : (mv l n k).find? (down n D k) with
  | some i => exact ⟨(i : Nat), _, true, rfl, fun h => ⟨rfl, by rw [if_neg (by omega), if_neg (by omega)]⟩⟩
  | none =>
    refine ⟨0, false, false, rfl, fun h => ?_⟩
    obtain ⟨i, e, _⟩ := down_some h1 h4 hD hk h
    rw [hf] at e
    cases e

def b53_0 : IC := .seq (.region [⟨(some 25), .bin .lss (.t 24) (.t 23), none⟩] none)
  (.seq (.cond (.t 25) (.skip)
  (.exit 0))
  (.seq (.block 1 (.seq (.region [⟨(some 26), .mov (.t 24), none⟩,
    ⟨(some 27), .idxs 1 (.t 22) (.t 24), none⟩,
    ⟨(some 28), .load none (.t 27), none⟩,
    ⟨(some 9), .mov (.t 26), none⟩,
    ⟨(some 10), .mov (.t 28), none⟩] none)
  (.seq (.region [⟨(some 30), .load (some 1) (.t 2), none⟩,
    ⟨(some 31), .mov (.t 1), none⟩,
    ⟨(some 32), .mov (.t 9), none⟩,
    ⟨(some 33), .mov (.t 6), none⟩,
    ⟨(some 34), .call (.c (.fn 97 [] [])) [(.t 30), (.t 31), (.t 32), (.t 33)], none⟩,
    ⟨(some 29), .mov (.t 34), none⟩,
    ⟨(some 35), .extract (.t 29) 0, none⟩,
    ⟨(some 36), .extract (.t 29) 1, none⟩,
    ⟨(some 11), .alloc [.int .i64 0, .bool false], none⟩,
    ⟨none, .store 2 (.t 11) (.t 35), none⟩,
    ⟨(some 12), .mov (.t 36), none⟩] none)
  (.block 2 (.seq (.region [⟨(some 43), .mov (.t 10), none⟩,
    ⟨(some 44), .bin .lss (.t 43) (.c (.int .i64 0)), none⟩,
    ⟨(some 42), .mov (.t 44), none⟩] none)
  (.cond (.t 42) (.region [⟨(some 45), .mov (.t 8), none⟩,
    ⟨(some 46), .bslice 1 1 [.int .i64 0] [(0, 1, (.c (.int .i64 (-2))))], none⟩,
    ⟨(some 47), .append 1 8 [.int .i64 0] (.t 45) (.t 46), none⟩,
    ⟨(some 8), .mov (.t 47), none⟩] none)
  (.seq (.region [⟨(some 49), .mov (.t 10), none⟩,
    ⟨(some 50), .bin .eql (.t 49) (.c (.int .i64 0)), none⟩,
    ⟨(some 51), .mov (.t 50), none⟩,
    ⟨(some 52), .mov (.t 12), some (51, false)⟩,
    ⟨(some 53), .un .not (.t 52), some (51, false)⟩,
    ⟨(some 54), .pick (.t 51) (.c (.bool true)) (.t 53), none⟩,
    ⟨(some 48), .mov (.t 54), none⟩] none)
  (.cond (.t 48) (.region [⟨(some 55), .mov (.t 8), none⟩,
    ⟨(some 56), .bslice 1 1 [.int .i64 0] [(0, 1, (.c (.int .i64 (-1))))], none⟩,
    ⟨(some 57), .append 1 8 [.int .i64 0] (.t 55) (.t 56), none⟩,
    ⟨(some 8), .mov (.t 57), none⟩] none)
  (.region [⟨(some 37), .mov (.t 8), none⟩,
    ⟨(some 38), .faddr 0 (.t 11), none⟩,
    ⟨(some 39), .load none (.t 38), none⟩,
    ⟨(some 40), .bslice 1 1 [.int .i64 0] [(0, 1, (.t 39))], none⟩,
    ⟨(some 41), .append 1 8 [.int .i64 0] (.t 37) (.t 40), none⟩,
    ⟨(some 8), .mov (.t 41), none⟩] none)))))))))
  (.region [⟨(some 58), .bin .add (.t 24) (.c (.int .i64 1)), none⟩,
    ⟨(some 24), .mov (.t 58), none⟩] none)))

-- pneumatic/homing.Program
def ic53 : IC := .seq (.region [⟨(some 2), .box (.t 0), none⟩,
    ⟨(some 4), .mov (.c (.nils)), none⟩,
    ⟨(some 5), .mov (.c (.int .i64 0)), none⟩] none)
  (.seq (.region [⟨(some 14), .load (some 1) (.t 2), none⟩,
    ⟨(some 15), .mov (.t 1), none⟩,
    ⟨(some 16), .call (.c (.fn 42 [] [])) [(.t 14), (.t 15)], none⟩,
    ⟨(some 13), .mov (.t 16), none⟩,
    ⟨(some 17), .extract (.t 13) 0, none⟩,
    ⟨(some 18), .extract (.t 13) 1, none⟩,
    ⟨(some 6), .mov (.t 17), none⟩,
    ⟨(some 7), .mov (.t 18), none⟩] none)
  (.seq (.seq (.region [⟨(some 19), .mov (.t 7), none⟩,
    ⟨(some 20), .bin .neq (.t 19) (.c (.int .i64 0)), none⟩] none)
  (.cond (.t 20) (.seq (.region [⟨(some 21), .mov (.t 7), none⟩,
    ⟨(some 4), .mov (.c (.nils)), none⟩,
    ⟨(some 5), .mov (.t 21), none⟩] none)
  (.ret))
  (.skip)))
  (.seq (.region [⟨(some 8), .mov (.c (.nils)), none⟩] none)
  (.seq (.seq (.region [⟨(some 22), .mov (.t 6), none⟩,
    ⟨(some 23), .len false (.t 22), none⟩,
    ⟨(some 24), .mov (.c (.int .i64 0)), none⟩] none)
  (.block 0 (.loop b53_0)))
  (.seq (.region [⟨(some 59), .mov (.t 8), none⟩,
    ⟨(some 4), .mov (.t 59), none⟩,
    ⟨(some 5), .mov (.c (.int .i64 0)), none⟩] none)
  (.ret))))))
theorem fn53 : env0.fn 53 = some ⟨60, ic53, [.t 4, .t 5]⟩ := by kernel_rfl

set_option maxHeartbeats 8000000 in
theorem program53 (l : List Ex) (hsl : ∀ y ∈ l, Slim y) (n : Int) (h4 : guardC l n = 0 → n ≤ 4) : PF Try.prog 53 [.agg [.vs (cXs l)], .int .i64 n] (progV l n) := by
  have p1 := levels42 l hsl n h4
  refine PF_of_Z env0_ok fn53 [(0, .agg [.vs (cXs l)]), (1, .int .i64 n)] (by show 2 ≤ 60; decide) rfl fun w0 N0 => ?_
  unfold ic53 progV
  repeat (first | refine z_seq ?_ | refine z_region rfl ?_ | refine o_nil ?_ | refine u_seq ?_ | refine o_mov rfl ?_ | refine o_loadn rfl rfl rfl rfl ?_ | refine o_box rfl rfl ?_)
  by_cases hg : guardC l n = 0
  · rw [levV, if_pos hg] at p1
    rw [if_pos hg]
    obtain ⟨g1, g2, g3, g4⟩ := guardC_ok hg
    have h4 := h4 hg
    obtain ⟨m, rfl⟩ : ∃ m : Nat, n = (m : Int) := ⟨n.toNat, by omega⟩
    rw [Int.toNat_natCast] at p1 ⊢
    have h1 : 1 ≤ m := by omega
    have h4 : m ≤ 4 := by omega
    have hD := lev_any (l := l) h1 h4
    have hb := lev_bound h4 hD
    have hp4 := pow4 h4
    generalize levL l m = D at *
    have hDl : (D.map fun z => ([.int .i64 z] : List AV)).length = 2 ^ m := by rw [List.length_map, hD.len]
    refine o_call rfl rfl p1 (fun h => Bool.noConfusion (show false = true from h)) ?_
    repeat (first | refine z_seq ?_ | refine z_region rfl ?_ | refine o_nil ?_ | refine u_seq ?_ | refine z_block ?_ | refine z_skip ?_ | refine z_cf rfl ?_ | refine o_mov rfl ?_ | refine o_len rfl rfl ?_ | refine o_extract rfl rfl ?_ | refine o_cmpf rfl rfl rfl ?_)
    rw [hDl]
    refine z_loop (fun mm S => ∃ k, mm = 2 ^ m - k ∧ k ≤ 2 ^ m ∧ S = st 60 [(1, .int .i64 (m : Nat)), (2, .vptr [.vs (cXs l)]), (6, vsI D), (8, .ms 0 0 1 0 (k) none), (22, vsI D), (23, .int .i64 (2 ^ m : Nat)), (24, .int .i64 (k : Nat))] [(0, 0, .cells ((progT l m D k).map (AV.int .i64)))] 1 1) (2 ^ m)
      (sub_renw [(none, [])] [(0, 0, [.vs (cXs l)])] rfl rfl rfl (.cons rfl rfl .nil) (.new .nil) (l' := [(1, .int .i64 (m : Nat)), (2, .vptr [.vs (cXs l)]), (6, vsI D), (8, .ms 0 0 1 0 0 none), (22, vsI D), (23, .int .i64 (2 ^ m : Nat)), (24, .int .i64 ((0 : Nat) : Int))]) (.cons rfl (.same rfl) (.cons rfl (.fptr rfl rfl) (.cons rfl (.same rfl) (.cons rfl (.grow rfl) (.cons rfl (.same rfl) (.cons rfl (.same rfl) (.cons rfl (.same rfl) .nil)))))))) ⟨0, rfl, Nat.zero_le _, rfl⟩ ?_
    rintro mm S ⟨k, rfl, hk, rfl⟩
    unfold b53_0
    repeat (first | refine z_seq ?_ | refine z_region rfl ?_)
    refine o_cmp rfl rfl rfl (fun h3 => ?_) fun h3 => ?_
    · have hlt : k < 2 ^ m := Int.ofNat_lt.1 (of_decide_eq_true h3)
      have gk := vsI_getD (D := D) (k := k) (by rw [hD.len]; exact hlt)
      have h97 := first97 l hsl h1 h4 hg hlt D hD.len hb
      obtain ⟨a, o, b, hfv, hpos⟩ := firstV_form h1 h4 hD hlt
      rw [hfv] at h97
      repeat (first | refine z_seq ?_ | refine z_region rfl ?_ | refine o_nil ?_ | refine u_seq ?_ | refine z_block ?_ | refine z_skip ?_ | refine z_ct rfl ?_ | refine o_mov rfl ?_ | refine o_load rfl rfl ?_ | refine o_loadn rfl rfl rfl rfl ?_ | refine o_idxs rfl rfl (by omega) (by assumption) rfl ?_)
      refine o_call rfl rfl h97 (fun h => Bool.noConfusion (show false = true from h)) ?_
      repeat (first | refine z_seq ?_ | refine z_region rfl ?_ | refine o_nil ?_ | refine u_seq ?_ | refine z_block ?_ | refine o_mov rfl ?_ | refine o_store rfl rfl rfl rfl rfl rfl rfl ?_ | refine o_alloc ?_ | refine o_extract rfl rfl ?_)
      by_cases hneg : D.getD k 0 < 0
      · have hpe : progE l m D k = -2 := by unfold progE; rw [if_pos hneg]
        refine o_cmpt rfl rfl (by show some (AV.bool (decide (D.getD k 0 < 0))) = _; rw [decide_eq_true hneg]) ?_
        repeat (first | refine z_region rfl ?_ | refine o_nil ?_ | refine u_seq ?_ | refine z_ct rfl ?_ | refine o_mov rfl ?_)
        refine o_fsl [[.int .i64 (-2)]] rfl rfl rfl rfl ?_
        refine o_append_ms [[.int .i64 (-2)]] rfl rfl rfl (fun h => Nat.noConfusion h) rfl (by decide) rfl (by rw [List.length_map, progT_len, Nat.mul_one]) (by show k + 1 ≤ _; omega) ?_
        repeat (first | refine z_region rfl ?_ | refine o_nil ?_ | refine u_seq ?_ | refine u_blk ?_ | refine o_mov rfl ?_ | refine o_bin (op := .add) rfl rfl rfl ?_)
        rw [wrap_succ k (by omega)]
        exact u_round (show 2 ^ m - (k + 1) < 2 ^ m - k by omega) (sub_renw [(some (0, 2), (progT l m D (k + 1)).map (AV.int .i64))] [] rfl rfl rfl .nil (.cons (by rw [progT_succ, hpe, List.map_append]; rfl) (.keep (hasML_intl _)) .nil) (l' := [(1, .int .i64 (m : Nat)), (2, .vptr [.vs (cXs l)]), (6, vsI D), (8, .ms 0 0 1 0 (k + 1) none), (22, vsI D), (23, .int .i64 (2 ^ m : Nat)), (24, .int .i64 (k + 1 : Nat))]) (.cons rfl (.same rfl) (.cons rfl (.same rfl) (.cons rfl (.same rfl) (.cons rfl (.ms rfl) (.cons rfl (.same rfl) (.cons rfl (.same rfl) (.cons rfl (.same rfl) .nil)))))))) ⟨k + 1, rfl, hlt, rfl⟩
      refine o_cmpf rfl rfl (by show some (AV.bool (decide (D.getD k 0 < 0))) = _; rw [decide_eq_false hneg]) ?_
      repeat (first | refine z_seq ?_ | refine z_region rfl ?_ | refine o_nil ?_ | refine u_seq ?_ | refine z_cf rfl ?_ | refine o_mov rfl ?_)
      by_cases hz : D.getD k 0 = 0
      · have hpe : progE l m D k = -1 := by unfold progE; rw [if_neg hneg, if_pos hz]
        refine o_cmpt rfl rfl (by show some (AV.bool (D.getD k 0 == 0)) = _; rw [beq_iff_eq.2 hz]) ?_
        repeat (first | refine z_region rfl ?_ | refine o_nil ?_ | refine u_seq ?_ | refine z_ct rfl ?_ | refine o_gn rfl rfl ?_ | refine o_mov rfl ?_ | refine o_pickt rfl rfl ?_)
        refine o_fsl [[.int .i64 (-1)]] rfl rfl rfl rfl ?_
        refine o_append_ms [[.int .i64 (-1)]] rfl rfl rfl (fun h => Nat.noConfusion h) rfl (by decide) rfl (by rw [List.length_map, progT_len, Nat.mul_one]) (by show k + 1 ≤ _; omega) ?_
        repeat (first | refine z_region rfl ?_ | refine o_nil ?_ | refine u_seq ?_ | refine u_blk ?_ | refine o_mov rfl ?_ | refine o_bin (op := .add) rfl rfl rfl ?_)
        rw [wrap_succ k (by omega)]
        exact u_round (show 2 ^ m - (k + 1) < 2 ^ m - k by omega) (sub_renw [(some (0, 2), (progT l m D (k + 1)).map (AV.int .i64))] [] rfl rfl rfl .nil (.cons (by rw [progT_succ, hpe, List.map_append]; rfl) (.keep (hasML_intl _)) .nil) (l' := [(1, .int .i64 (m : Nat)), (2, .vptr [.vs (cXs l)]), (6, vsI D), (8, .ms 0 0 1 0 (k + 1) none), (22, vsI D), (23, .int .i64 (2 ^ m : Nat)), (24, .int .i64 (k + 1 : Nat))]) (.cons rfl (.same rfl) (.cons rfl (.same rfl) (.cons rfl (.same rfl) (.cons rfl (.ms rfl) (.cons rfl (.same rfl) (.cons rfl (.same rfl) (.cons rfl (.same rfl) .nil)))))))) ⟨k + 1, rfl, hlt, rfl⟩
      obtain ⟨rfl, hpe⟩ := hpos (by omega)
      refine o_cmpf rfl rfl (by show some (AV.bool (D.getD k 0 == 0)) = _; rw [beq_false_of_ne hz]) ?_
      repeat (first | refine z_region rfl ?_ | refine o_nil ?_ | refine u_seq ?_ | refine z_cf rfl ?_ | refine o_gy rfl ?_ | refine o_mov rfl ?_ | refine o_load rfl rfl ?_ | refine o_faddrm rfl ?_ | refine o_pickf rfl rfl ?_ | refine o_un rfl rfl ?_)
      refine o_fsl [[.int .i64 a]] rfl rfl rfl rfl ?_
      refine o_append_ms [[.int .i64 a]] rfl rfl rfl (fun h => Nat.noConfusion h) rfl (by decide) rfl (by rw [List.length_map, progT_len, Nat.mul_one]) (by show k + 1 ≤ _; omega) ?_
      repeat (first | refine z_region rfl ?_ | refine o_nil ?_ | refine u_seq ?_ | refine u_blk ?_ | refine o_mov rfl ?_ | refine o_bin (op := .add) rfl rfl rfl ?_)
      rw [wrap_succ k (by omega)]
      exact u_round (show 2 ^ m - (k + 1) < 2 ^ m - k by omega) (sub_renw [(some (0, 2), (progT l m D (k + 1)).map (AV.int .i64))] [] rfl rfl rfl .nil (.cons (by rw [progT_succ, hpe, List.map_append]; rfl) (.keep (hasML_intl _)) .nil) (l' := [(1, .int .i64 (m : Nat)), (2, .vptr [.vs (cXs l)]), (6, vsI D), (8, .ms 0 0 1 0 (k + 1) none), (22, vsI D), (23, .int .i64 (2 ^ m : Nat)), (24, .int .i64 (k + 1 : Nat))]) (.cons rfl (.same rfl) (.cons rfl (.same rfl) (.cons rfl (.same rfl) (.cons rfl (.ms rfl) (.cons rfl (.same rfl) (.cons rfl (.same rfl) (.cons rfl (.same rfl) .nil)))))))) ⟨k + 1, rfl, hlt, rfl⟩
    · have hk2 : k = 2 ^ m := by
        have : ¬ k < 2 ^ m := fun h => of_decide_eq_false h3 (Int.ofNat_lt.2 h)
        omega
      subst hk2
      repeat (first | refine z_seq ?_ | refine o_nil ?_ | refine u_seq ?_ | refine z_cf rfl ?_ | refine z_exit ?_ | refine u_exit_seq ?_)
      refine u_out ?_
      repeat (first | refine z_seq ?_ | refine z_region rfl ?_ | refine o_nil ?_ | refine u_seq ?_ | refine z_ret ?_ | refine u_exit ?_ | refine o_mov rfl ?_)
      refine u_end ⟨.inr rfl, _, rfl, ?_⟩
      exact congrArg AV.tup (pair_eq (view_intN (d := 2) _ (progT_len ..) rfl) rfl)
  · rw [levV, if_neg hg] at p1
    rw [if_neg hg]
    refine o_call rfl rfl p1 (fun h => Bool.noConfusion (show false = true from h)) ?_
    repeat (first | refine z_seq ?_ | refine z_region rfl ?_ | refine o_nil ?_ | refine u_seq ?_ | refine o_mov rfl ?_ | refine o_extract rfl rfl ?_)
    refine o_cmp rfl rfl rfl (fun h => ?_) fun h => absurd (by simpa using h) hg
    repeat (first | refine z_seq ?_ | refine z_region rfl ?_ | refine o_nil ?_ | refine u_seq ?_ | refine z_ct rfl ?_ | refine z_ret ?_ | refine u_ret_seq ?_ | refine o_mov rfl ?_)
    exact u_end ⟨.inr rfl, _, rfl, rfl⟩

end Go.Proofs.Ytoiblgbaeglgoaa
namespace Go.Proofs.Ytoiblgbaeglgoaa
open Go Go.Am

end Go.Proofs.Ytoiblgbaeglgoaa
namespace Go.Proofs.Ytoiblgbaeglgoaa
open Go Go.Am

def vsL (a : List (List Bool)) : AV := .vs (a.map fun e => [vsB e])

def rowB (a : List (List Bool)) : List AV := a.map vsB

theorem vsL_row (a : List (List Bool)) : vsL a = .vs ((rowB a).map fun v => [v]) := by
  unfold vsL rowB
  rw [List.map_map]
  rfl

theorem rowB_hasM : ∀ a : List (List Bool), hasM.hasML (rowB a) = false
  | [] => rfl
  | p :: a => by
    have := rowB_hasM a
    show (hasM (vsB p) || hasM.hasML (rowB a)) = false
    rw [this]
    rfl

theorem view_rowB {S : AS} {d id sp : Nat} {cap : Option Nat} (out : List (List Bool)) (hl : Am.look id S.heap = some (sp, .cells (rowB out))) : S.view (d + 1) (.ms id sp 1 0 out.length cap) = vsL out := by
  have hf : rowB out = ((rowB out).map fun v => ([v] : List AV)).flatten := by
    clear hl
    generalize rowB out = l
    induction l with
    | nil => rfl
    | cons b l ih => simpa using ih
  have hs : ∀ x ∈ (rowB out).map (fun v => ([v] : List AV)), x.length = 1 := fun x hx => by obtain ⟨v, _, rfl⟩ := List.mem_map.1 hx; rfl
  have e : S.elems 1 (.ms id sp 1 0 out.length cap) = some ((rowB out).map fun v => [v]) := by
    simp only [AS.elems, hl]
    have hlen : (rowB out).length = out.length := List.length_map ..
    rw [if_pos ⟨trivial, trivial, by omega⟩, List.drop_zero]
    conv => lhs; rw [hf]
    have := chunk_flat hs
    rw [List.length_map, hlen] at this
    rw [this]
  simp only [AS.view, e]
  rw [vsL_row]
  congr 1
  rw [List.map_map]
  apply List.map_congr_left
  intro v hv
  obtain ⟨p, _, rfl⟩ := List.mem_map.1 hv
  cases d <;> rfl

def b59_0 : IC := .seq (.seq (.region [⟨(some 11), .mov (.t 5), none⟩,
    ⟨(some 12), .mov (.t 0), none⟩,
    ⟨(some 13), .len false (.t 12), none⟩,
    ⟨(some 14), .bin .lss (.t 11) (.t 13), none⟩] none)
  (.cond (.t 14) (.skip)
  (.exit 0)))
  (.seq (.block 1 (.seq (.region [⟨(some 17), .mov (.t 0), none⟩,
    ⟨(some 18), .mov (.t 5), none⟩,
    ⟨(some 19), .idxs 1 (.t 17) (.t 18), none⟩,
    ⟨(some 20), .load none (.t 19), none⟩,
    ⟨(some 21), .mov (.t 1), none⟩,
    ⟨(some 22), .mov (.t 5), none⟩,
    ⟨(some 23), .idxs 1 (.t 21) (.t 22), none⟩,
    ⟨(some 24), .load none (.t 23), none⟩,
    ⟨(some 25), .eqb true (.t 20) (.t 24), none⟩] (some [[], [], [0, 1], [2], [], [], [4, 5], [6], [3, 7]]))
  (.cond (.t 25) (.seq (.region [⟨(some 4), .mov (.c (.bool false)), none⟩] none)
  (.ret))
  (.skip))))
  (.region [⟨(some 15), .mov (.t 5), none⟩,
    ⟨(some 16), .bin .add (.t 15) (.c (.int .i64 1)), none⟩,
    ⟨(some 5), .mov (.t 16), none⟩] none))

-- pneumatic/pneumaticref13.SameEnds
def ic59 : IC := .seq (.region [⟨(some 4), .mov (.c (.bool false)), none⟩] none)
  (.seq (.seq (.region [⟨(some 6), .mov (.t 0), none⟩,
    ⟨(some 7), .len false (.t 6), none⟩,
    ⟨(some 8), .mov (.t 1), none⟩,
    ⟨(some 9), .len false (.t 8), none⟩,
    ⟨(some 10), .bin .neq (.t 7) (.t 9), none⟩] none)
  (.cond (.t 10) (.seq (.region [⟨(some 4), .mov (.c (.bool false)), none⟩] none)
  (.ret))
  (.skip)))
  (.seq (.seq (.region [⟨(some 5), .mov (.c (.int .i64 0)), none⟩] none)
  (.block 0 (.loop b59_0)))
  (.seq (.region [⟨(some 4), .mov (.c (.bool true)), none⟩] none)
  (.ret))))
theorem fn59 : env0.fn 59 = some ⟨26, ic59, [.t 4]⟩ := by kernel_rfl

def lostB (l : List Ex) (n : Nat) (D : List Int) (k : Nat) : Bool := decide (D.getD k 0 < 0) && freeB l (posE (bitsE n k))

def lostT (l : List Ex) (n : Nat) (D : List Int) (k : Nat) : List (List Bool) := ((List.range k).filter (lostB l n D)).map (bitsE n)

theorem lostT_succ (l : List Ex) (n : Nat) (D : List Int) (k : Nat) : lostT l n D (k + 1) = lostT l n D k ++ (if lostB l n D k then [bitsE n k] else []) := by
  unfold lostT
  rw [List.range_succ, List.filter_append, List.map_append]
  congr 1
  simp only [List.filter_cons, List.filter_nil]
  split <;> rfl

theorem lostT_len (l : List Ex) (n : Nat) (D : List Int) (k : Nat) : (lostT l n D k).length ≤ k := by
  unfold lostT
  rw [List.length_map]
  have := List.length_filter_le (lostB l n D) (List.range k)
  rwa [List.length_range] at this

def lostV (l : List Ex) (n : Int) : AV := if guardC l n = 0 then .tup [vsL (lostT l n.toNat (levL l n.toNat) (2 ^ n.toNat)), .int .i64 0] else .tup [vsL [], .int .i64 (guardC l n)]

end Go.Proofs.Ytoiblgbaeglgoaa
namespace Go.Proofs.Ytoiblgbaeglgoaa
open Go Go.Am

section
variable {P : Program} {w0 : World} {N0 : Nat} {k : List Fr} {Q : Exit → AS → Prop} {pf : Kn} {ios : List Opr} {n nx ck : Nat} {mk : List (Nat × Nat)} {md : Md} {l : List (Nat × AV)} {hp : List (Nat × Nat × AObj)}

theorem o_mks {d sz bytes : Nat} {z : List AV} {a c : Arg} {lv cv : Int} {kd kc : IntKind} (ha : argA a l = some (.int kd lv)) (hc : argA c l = some (.int kc cv)) (hb : 0 ≤ lv ∧ lv ≤ cv ∧ cv ≤ 1048576 ∧ bytes ≤ 16777216)
    (go : Om P w0 N0 md pf ios (st n ((d, .ms nx ck sz 0 lv.toNat (some cv.toNat)) :: l) ((nx, ck, .cells (repl cv.toNat z)) :: hp) (nx + 1) (ck + 1) mk) k Q) (hx : Ops pf (st n l hp nx ck mk) (.mkslice sz bytes z a c) := by exact trivial) :
    Om P w0 N0 md pf (⟨some d, .mkslice sz bytes z a c, none⟩ :: ios) (st n l hp nx ck mk) k Q :=
  o_op (by simp only [iop, arg_st, ha, hc, if_pos hb]; rfl) go hx

theorem zq {ic : IC} {q : Nat} (hq : mk.length = q) (live : Live) (fz : List (Nat × Nat × List AV)) (l' : List (Nat × AV)) (hok : okW (fz.map (·.1)) live = true) (hf : RnF hp fz) (h1 : RnH live fz hp live) (h2 : RnA live fz l l') (h : Zm P w0 N0 none ic (st n l' (enumW 0 live ++ defsW live.length q) (q + live.length) 1 (mksW live.length q)) k Q) : Zm P w0 N0 none ic (st n l hp nx ck mk) k Q := by
  subst hq
  exact z_renwm live fz l' hok hf h1 h2 h

theorem sq {l' : List (Nat × AV)} {hp' : List (Nat × Nat × AObj)} {nx' q : Nat} {mk' : List (Nat × Nat)} (hq : mk.length = q) (live : Live) (fz : List (Nat × Nat × List AV)) (hh : hp' = enumW 0 live ++ defsW live.length q) (hx : nx' = q + live.length) (hm : mk' = mksW live.length q) (hok : okW (fz.map (·.1)) live = true) (hf : RnF hp fz) (h1 : RnH live fz hp live) (h2 : RnA live fz l l') : Sub0 w0 N0 (st n l hp nx ck mk) (st n l' hp' nx' 1 mk') := by
  subst hq hm
  exact sub_renwm live fz hh hx hok hf h1 h2

end

def w50 (e : List Bool) (i : Nat) : List Bool := e.take i ++ List.replicate (e.length - i) false

theorem w50_len {e : List Bool} {i : Nat} (h : i ≤ e.length) : (w50 e i).length = e.length := by
  unfold w50
  rw [List.length_append, List.length_take, List.length_replicate]
  omega

theorem w50_set {e : List Bool} {i : Nat} (h : i < e.length) : (w50 e i).set i (e.getD i false) = w50 e (i + 1) := by
  unfold w50
  rw [List.take_add_one, List.getElem?_eq_getElem h, show e.length - i = (e.length - (i + 1)) + 1 from by omega, List.replicate_succ, List.getD_eq_getElem?_getD, List.getElem?_eq_getElem h]
  have hl : (e.take i).length = i := by rw [List.length_take]; omega
  rw [List.set_append_right _ _ (by omega), hl, Nat.sub_self, List.set_cons_zero, List.append_assoc]
  rfl

theorem w50_end (e : List Bool) : w50 e e.length = e := by
  unfold w50
  rw [List.take_length, Nat.sub_self]
  exact List.append_nil _

theorem repl_bool (m : Nat) : repl m [.bool false] = (List.replicate m false).map AV.bool := by
  induction m with
  | zero => rfl
  | succ m ih => rw [repl, ih, List.replicate_succ, List.map_cons]; rfl

noncomputable def ca50_0 : Code := match env0.fn 50 with
  | some i => ((rangesOf i.ic)[0]?.getD (.skip, .skip)).1
  | none => .skip

noncomputable def cb50_0 : Code := match env0.fn 50 with
  | some i => ((rangesOf i.ic)[0]?.getD (.skip, .skip)).2
  | none => .skip

def asg50_0 : IC := .seq (.region [⟨(some 12), .mov (.t 45), none⟩] none)
  (.region [⟨(some 13), .mov (.t 46), none⟩] none)

def rb50_0 : IC := .block 3 (.region [⟨(some 47), .load none (.t 11), none⟩,
    ⟨(some 48), .mov (.t 12), none⟩,
    ⟨(some 49), .mov (.t 13), none⟩,
    ⟨(some 50), .idxs 1 (.t 47) (.t 48), none⟩,
    ⟨none, .store 1 (.t 50) (.t 49), none⟩] none)

noncomputable def b50_0 : IC := .seq (.region [⟨(some 26), .bin .lss (.t 25) (.t 24), none⟩] none)
  (.seq (.cond (.t 26) (.skip)
  (.exit 0))
  (.seq (.block 1 (.seq (.region [⟨(some 27), .mov (.t 25), none⟩,
    ⟨(some 28), .idxs 1 (.t 23) (.t 25), none⟩,
    ⟨(some 29), .load none (.t 28), none⟩,
    ⟨(some 9), .mov (.t 27), none⟩,
    ⟨(some 10), .mov (.t 29), none⟩] none)
  (.seq (.seq (.region [⟨(some 30), .mov (.t 10), none⟩,
    ⟨(some 31), .bin .geq (.t 30) (.c (.int .i64 0)), none⟩,
    ⟨(some 32), .mov (.t 31), none⟩,
    ⟨(some 33), .load (some 1) (.t 2), some (32, false)⟩,
    ⟨(some 34), .mov (.t 1), some (32, false)⟩,
    ⟨(some 35), .mov (.t 9), some (32, false)⟩,
    ⟨(some 36), .call (.c (.fn 95 [] [])) [(.t 34), (.t 35)], some (32, false)⟩,
    ⟨(some 37), .call (.c (.fn 94 [] [])) [(.t 33), (.t 36)], some (32, false)⟩,
    ⟨(some 38), .un .not (.t 37), some (32, false)⟩,
    ⟨(some 39), .pick (.t 32) (.c (.bool true)) (.t 38), none⟩] (some [[], [0], [1], [2], [2], [2], [4, 5, 2, 2], [3, 6, 6, 2], [7, 2], [2, 8]]))
  (.cond (.t 39) (.exit 1)
  (.skip)))
  (.seq (.region [⟨(some 40), .mov (.t 1), none⟩,
    ⟨(some 41), .mkslice 1 1 [.bool false] (.t 40) (.t 40), none⟩,
    ⟨(some 11), .alloc [.nils], none⟩,
    ⟨none, .store 1 (.t 11) (.t 41), none⟩] none)
  (.seq (.seq (.region [⟨(some 42), .mov (.t 1), none⟩,
    ⟨(some 43), .mov (.t 9), none⟩,
    ⟨(some 44), .call (.c (.fn 106 [] [])) [(.t 42), (.t 43)], none⟩] none)
  (.block 2 (.rangeFunc (.t 44) [45, 46] ca50_0 cb50_0 asg50_0 rb50_0)))
  (.region [⟨(some 51), .mov (.t 8), none⟩,
    ⟨(some 52), .load none (.t 11), none⟩,
    ⟨(some 53), .bslice 1 1 [.nils] [(0, 1, (.t 52))], none⟩,
    ⟨(some 54), .append 1 24 [.nils] (.t 51) (.t 53), none⟩,
    ⟨(some 8), .mov (.t 54), none⟩] none))))))
  (.region [⟨(some 55), .bin .add (.t 25) (.c (.int .i64 1)), none⟩,
    ⟨(some 25), .mov (.t 55), none⟩] none)))

-- pneumatic/homing.Lost
noncomputable def ic50 : IC := .seq (.region [⟨(some 2), .box (.t 0), none⟩,
    ⟨(some 4), .mov (.c (.nils)), none⟩,
    ⟨(some 5), .mov (.c (.int .i64 0)), none⟩] none)
  (.seq (.region [⟨(some 15), .load (some 1) (.t 2), none⟩,
    ⟨(some 16), .mov (.t 1), none⟩,
    ⟨(some 17), .call (.c (.fn 42 [] [])) [(.t 15), (.t 16)], none⟩,
    ⟨(some 14), .mov (.t 17), none⟩,
    ⟨(some 18), .extract (.t 14) 0, none⟩,
    ⟨(some 19), .extract (.t 14) 1, none⟩,
    ⟨(some 6), .mov (.t 18), none⟩,
    ⟨(some 7), .mov (.t 19), none⟩] none)
  (.seq (.seq (.region [⟨(some 20), .mov (.t 7), none⟩,
    ⟨(some 21), .bin .neq (.t 20) (.c (.int .i64 0)), none⟩] none)
  (.cond (.t 21) (.seq (.region [⟨(some 22), .mov (.t 7), none⟩,
    ⟨(some 4), .mov (.c (.nils)), none⟩,
    ⟨(some 5), .mov (.t 22), none⟩] none)
  (.ret))
  (.skip)))
  (.seq (.region [⟨(some 8), .mov (.c (.nils)), none⟩] none)
  (.seq (.seq (.region [⟨(some 23), .mov (.t 6), none⟩,
    ⟨(some 24), .len false (.t 23), none⟩,
    ⟨(some 25), .mov (.c (.int .i64 0)), none⟩] none)
  (.block 0 (.loop b50_0)))
  (.seq (.region [⟨(some 56), .mov (.t 8), none⟩,
    ⟨(some 4), .mov (.t 56), none⟩,
    ⟨(some 5), .mov (.c (.int .i64 0)), none⟩] none)
  (.ret))))))
theorem fn50 : env0.fn 50 = some ⟨57, ic50, [.t 4, .t 5]⟩ := by kernel_rfl

structure I50 (D : Nat) (out : List AV) (e : List Bool) (ltm : List (Nat × AV)) (i : Nat) (H : HS) : Prop where
  nx : D + 2 ≤ H.next
  h4 : Am.look (D + 1) H.heap = some (2, .loop .ready none 57 (tmOf ltm) [45, 46] ca50_0 cb50_0 (D, 1))
  h3 : Am.look D H.heap = some (1, .deferred)
  h0 : Am.look 0 H.heap = some (0, .cells out)
  h1 : Am.look 1 H.heap = some (0, .cells [.ms 2 0 1 0 e.length (some e.length)])
  h2 : Am.look 2 H.heap = some (0, .cells ((w50 e i).map AV.bool))

def l50 (l : List Ex) (m k : Nat) (Dv : List Int) (len : Nat) : List (Nat × AV) := [(44, .fn 144 [] [.vptr [.int .i64 (m : Nat)], .vptr [.int .i64 (k : Nat)]]), (1, .int .i64 (m : Nat)), (2, .vptr [.vs (cXs l)]), (6, vsI Dv), (8, .ms 0 0 1 0 len none), (23, vsI Dv), (24, .int .i64 (2 ^ m : Nat)), (25, .int .i64 (k : Nat)), (9, .int .i64 (k : Nat)), (11, .mptr 1 0 0)]

set_option maxHeartbeats 2000000 in
theorem yield50 {w0 : World} {N0 D : Nat} (hD : 3 ≤ D) {l : List Ex} {m k : Nat} {Dv : List Int} {len : Nat} {out : List AV} {e : List Bool} (ha : Com Try.prog ca50_0 asg50_0) (hb : Com Try.prog cb50_0 rb50_0) (i : Nat) (H : HS) (hi : i < e.length) (h : I50 D out e (l50 l m k Dv len) i H) :
    CT Try.prog w0 N0 (.yield (D + 1) 2) [.int .i64 (i : Nat), .bool (e.getD i false)] H fun v H' => v = .bool true ∧ Keep (fun j => j < 3 ∨ j = D ∨ j = D + 1) H H' ∧ I50 D out e (l50 l m k Dv len) (i + 1) H' := by
  obtain ⟨nx, h4, h3, h0, h1, h2⟩ := h
  have hwl := w50_len (Nat.le_of_lt hi)
  have hws : ((w50 e i).map AV.bool).set i (.bool (e.getD i false)) = (w50 e (i + 1)).map AV.bool := by rw [← w50_set hi, List.map_set]
  refine ct_yield (l0 := (46, .bool (e.getD i false)) :: (45, .int .i64 (i : Nat)) :: l50 l m k Dv len) h4 ha hb rfl (by decide) rfl ?_
  unfold asg50_0
  repeat (first | refine z_seq ?_ | refine z_region rfl ?_ | refine o_nil ?_ | refine u_seq ?_ | refine o_mov rfl ?_)
  refine u_end ⟨rfl, _, rfl, ?_⟩
  unfold rb50_0 l50
  repeat (first | refine z_region rfl ?_ | refine z_block ?_)
  refine o_loadm (sp := 0) rfl (by (repeat (first | rw [look_putl, if_pos rfl] | rw [look_putl, if_neg (by omega)] | rw [look_dropl, if_neg (by omega)])); all_goals (first | rfl | assumption)) (by omega) rfl ?_
  repeat (first | refine o_mov rfl ?_ | refine o_idxsm rfl rfl (by omega) (by omega) ?_)
  have e0 : 0 + ((i : Nat) : Int).toNat * 1 = i := by omega
  rw [e0]
  refine o_storeg (sp := 0) rfl rfl rfl (by (repeat (first | rw [look_putl, if_pos rfl] | rw [look_putl, if_neg (by omega)] | rw [look_dropl, if_neg (by omega)])); all_goals (first | rfl | assumption)) (by rw [List.length_map, hwl]; exact hi) rfl ?_
  rw [hws]
  repeat (first | refine o_nil ?_ | refine u_blk ?_)
  refine u_end ⟨57, tmOf (l50 l m k Dv len), [45, 46], ca50_0, cb50_0, (D, 1), ?_, none, rfl, rfl, ⟨Nat.le_refl _, Nat.le_refl _, fun j hj _ => ?_⟩, nx, ?_, ?_, ?_, ?_, ?_⟩
  · show Am.look (D + 1) (putl 2 _ (putl (D + 1) _ H.heap)) = _
    exact (by (repeat (first | rw [look_putl, if_pos rfl] | rw [look_putl, if_neg (by omega)] | rw [look_dropl, if_neg (by omega)])); all_goals (first | rfl | assumption))
  · show Am.look j (putl (D + 1) _ (putl 2 _ (putl (D + 1) _ H.heap))) = _
    rw [look_putl, if_neg (by omega), look_putl, if_neg (by omega), look_putl, if_neg (by omega)]
  · show Am.look (D + 1) (putl (D + 1) _ _) = _
    rw [look_putl, if_pos rfl]; rfl
  · show Am.look D (putl (D + 1) _ (putl 2 _ (putl (D + 1) _ H.heap))) = _
    exact (by (repeat (first | rw [look_putl, if_pos rfl] | rw [look_putl, if_neg (by omega)] | rw [look_dropl, if_neg (by omega)])); all_goals (first | rfl | assumption))
  · show Am.look 0 (putl (D + 1) _ (putl 2 _ (putl (D + 1) _ H.heap))) = _
    exact (by (repeat (first | rw [look_putl, if_pos rfl] | rw [look_putl, if_neg (by omega)] | rw [look_dropl, if_neg (by omega)])); all_goals (first | rfl | assumption))
  · show Am.look 1 (putl (D + 1) _ (putl 2 _ (putl (D + 1) _ H.heap))) = _
    exact (by (repeat (first | rw [look_putl, if_pos rfl] | rw [look_putl, if_neg (by omega)] | rw [look_dropl, if_neg (by omega)])); all_goals (first | rfl | assumption))
  · show Am.look 2 (putl (D + 1) _ (putl 2 _ (putl (D + 1) _ H.heap))) = _
    exact (by (repeat (first | rw [look_putl, if_pos rfl] | rw [look_putl, if_neg (by omega)] | rw [look_dropl, if_neg (by omega)])); all_goals (first | rfl | assumption))

end Go.Proofs.Ytoiblgbaeglgoaa
namespace Go.Proofs.Ytoiblgbaeglgoaa
open Go Go.Am

theorem look_dropAllH : ∀ (ms : List (Nat × Nat)) (hp : List (Nat × Nat × AObj)) (k : Nat), (∀ z ∈ ms, z.1 ≠ k) → Am.look k (dropAll ms hp) = Am.look k hp
  | [], _, _, _ => rfl
  | z :: ms, hp, k, h => by
    rw [dropAll_cons, look_dropAllH ms _ k fun y hy => h y (List.mem_cons_of_mem _ hy), look_dropl, if_neg (h z (List.mem_cons_self ..))]

set_option maxHeartbeats 8000000 in
theorem lost50 (l : List Ex) (hsl : ∀ y ∈ l, Slim y) (n : Int) (h4 : guardC l n = 0 → n ≤ 4) : PF Try.prog 50 [.agg [.vs (cXs l)], .int .i64 n] (lostV l n) := by
  have p1 := levels42 l hsl n h4
  refine PF_of_Z env0_ok fn50 [(0, .agg [.vs (cXs l)]), (1, .int .i64 n)] (by show 2 ≤ 57; decide) rfl fun w0 N0 => ?_
  unfold ic50 lostV
  repeat (first | refine z_seq ?_ | refine z_region rfl ?_ | refine o_nil ?_ | refine u_seq ?_ | refine o_mov rfl ?_ | refine o_loadn rfl rfl rfl rfl ?_ | refine o_box rfl rfl ?_)
  by_cases hg : guardC l n = 0
  · rw [levV, if_pos hg] at p1
    rw [if_pos hg]
    obtain ⟨g1, g2, g3, g4⟩ := guardC_ok hg
    have h4 := h4 hg
    obtain ⟨m, rfl⟩ : ∃ m : Nat, n = (m : Int) := ⟨n.toNat, by omega⟩
    rw [Int.toNat_natCast] at p1 ⊢
    have h1 : 1 ≤ m := by omega
    have h4 : m ≤ 4 := by omega
    have hD := lev_any (l := l) h1 h4
    have hp4 := pow4 h4
    generalize levL l m = D at *
    have hDl : (D.map fun z => ([.int .i64 z] : List AV)).length = 2 ^ m := by rw [List.length_map, hD.len]
    refine o_call rfl rfl p1 (fun h => Bool.noConfusion (show false = true from h)) ?_
    repeat (first | refine z_seq ?_ | refine z_region rfl ?_ | refine o_nil ?_ | refine u_seq ?_ | refine z_block ?_ | refine z_skip ?_ | refine z_cf rfl ?_ | refine o_mov rfl ?_ | refine o_len rfl rfl ?_ | refine o_extract rfl rfl ?_ | refine o_cmpf rfl rfl rfl ?_)
    rw [hDl]
    refine z_loop (fun mm S => ∃ k q, mm = 2 ^ m - k ∧ k ≤ 2 ^ m ∧ S = st 57 [(1, .int .i64 (m : Nat)), (2, .vptr [.vs (cXs l)]), (6, vsI D), (8, .ms 0 0 1 0 ((lostT l m D k).length) none), (23, vsI D), (24, .int .i64 (2 ^ m : Nat)), (25, .int .i64 (k : Nat))] ((0, 0, .cells (rowB (lostT l m D k))) :: defsW 1 q) (q + 1) 1 (mksW 1 q)) (2 ^ m)
      (sub_renw [(none, [])] [(0, 0, [.vs (cXs l)])] rfl rfl rfl (.cons rfl rfl .nil) (.new .nil) (l' := [(1, .int .i64 (m : Nat)), (2, .vptr [.vs (cXs l)]), (6, vsI D), (8, .ms 0 0 1 0 (0) none), (23, vsI D), (24, .int .i64 (2 ^ m : Nat)), (25, .int .i64 ((0 : Nat) : Int))]) (.cons rfl (.same rfl) (.cons rfl (.fptr rfl rfl) (.cons rfl (.same rfl) (.cons rfl (.grow rfl) (.cons rfl (.same rfl) (.cons rfl (.same rfl) (.cons rfl (.same rfl) .nil)))))))) ⟨0, 0, rfl, Nat.zero_le _, rfl⟩ ?_
    rintro mm S ⟨k, q, rfl, hk, rfl⟩
    unfold b50_0
    repeat (first | refine z_seq ?_ | refine z_region rfl ?_)
    refine o_cmp rfl rfl rfl (fun h3 => ?_) fun h3 => ?_
    · have hlt : k < 2 ^ m := Int.ofNat_lt.1 (of_decide_eq_true h3)
      have gk := vsI_getD (D := D) (k := k) (by rw [hD.len]; exact hlt)
      have hbl := bitsE_len m k
      have hib := idx_bits h1 h4 hlt
      have h95 := pos95 (e := bitsE m k) (by rw [hbl]; exact h1) (by rw [hbl]; exact h4)
      rw [hbl, hib] at h95
      have h94 := allowed94 l hsl (posE (bitsE m k)) (posC_pos (by rw [hbl]; exact hg))
      have h106 := bits106 (m : Int) (k : Int)
      have hkl := lostT_len l m D k
      have hmk0 : marksOk (mksW 1 q) ((0, 0, .cells (rowB (lostT l m D k))) :: defsW 1 q) := fun z hz => by
        obtain ⟨z1, z2, z3⟩ := mksW_mem hz
        rw [look_cons, if_neg (by omega), look_defsW, if_pos ⟨z1, z2⟩, z3]
      repeat (first | refine z_seq ?_ | refine z_region rfl ?_ | refine o_nil ?_ | refine u_seq ?_ | refine z_block ?_ | refine z_skip ?_ | refine z_ct rfl ?_ | refine o_mov rfl ?_ | refine o_load rfl rfl ?_ | refine o_idxs rfl rfl (by omega) (by assumption) rfl ?_)
      refine z_drawn env0_ok [(95, [.int .i64 (m : Nat), .int .i64 (k : Nat)], vsI (posE (bitsE m k))), (94, [.agg [.vs (cXs l)], vsI (posE (bitsE m k))], .bool (freeB l (posE (bitsE m k))))] (fun x hx => by
        rcases List.mem_cons.1 hx with rfl | hx
        · exact h95
        obtain rfl := List.mem_singleton.1 hx
        exact h94) (fun f => Nat.beq f 95 || Nat.beq f 94) rfl rfl rfl ?_
      repeat (first | refine o_mov rfl ?_)
      by_cases hneg : D.getD k 0 < 0
      · refine o_cmpf rfl rfl (by show some (AV.bool (decide (D.getD k 0 ≥ 0))) = _; rw [decide_eq_false (by omega)]) ?_
        repeat (first | refine o_gy rfl ?_ | refine o_mov rfl ?_ | refine o_loadn rfl rfl rfl rfl ?_)
        refine o_call rfl rfl lookL_here (fun h => Bool.noConfusion (show false = true from h)) ?_ hmk0
        refine o_gy rfl ?_
        refine o_call rfl rfl (lookL_next (by decide) lookL_here) (fun h => Bool.noConfusion (show false = true from h)) ?_ hmk0
        cases hf : freeB l (posE (bitsE m k)) with
        | true =>
          have hlb : lostB l m D k = true := by unfold lostB; rw [decide_eq_true hneg, hf]; rfl
          have hlo : lostT l m D (k + 1) = lostT l m D k ++ [bitsE m k] := by rw [lostT_succ, hlb]; rfl
          repeat (first | refine z_seq ?_ | refine z_region rfl ?_ | refine o_nil ?_ | refine u_seq ?_ | refine z_skip ?_ | refine z_cf rfl ?_ | refine o_gy rfl ?_ | refine o_mov rfl ?_ | refine o_pickf rfl rfl ?_ | refine o_un rfl rfl ?_)
          refine o_mks rfl rfl (by omega) ?_
          rw [Int.toNat_natCast, repl_bool]
          repeat (first | refine o_alloc ?_)
          refine o_store rfl rfl rfl rfl look_top rfl rfl ?_
          rw [putl_top]
          repeat (first | refine z_seq ?_ | refine z_region rfl ?_ | refine o_nil ?_ | refine u_seq ?_ | refine o_mov rfl ?_)
          have hmk1 : marksOk (mksW 1 q) ((q + 1 + 1, 2, .cells [.ms (q + 1) 1 1 0 m (some m)]) :: (q + 1, 1, .cells ((List.replicate m false).map AV.bool)) :: (0, 0, .cells (rowB (lostT l m D k))) :: defsW 1 q) := fun z hz => by
            obtain ⟨z1, z2, z3⟩ := mksW_mem hz
            rw [look_cons, if_neg (by omega), look_cons, if_neg (by omega), look_cons, if_neg (by omega), look_defsW, if_pos ⟨z1, z2⟩, z3]
          refine o_call rfl rfl h106 (fun h => Bool.noConfusion (show false = true from h)) ?_ hmk1
          refine o_nil (u_seq (z_block ?_))
          generalize hout : lostT l m D k = out at *
          refine zq (mksW_length q 1) [(some (0, 0), rowB out), (some (q + 1 + 1, 2), [.ms 2 0 1 0 m (some m)]), (some (q + 1, 1), (List.replicate m false).map AV.bool)] [] (l50 l m k D out.length) (by simp [okW, memN, beq_neH (show 0 ≠ q + 1 + 1 by omega), beq_neH (show 0 ≠ q + 1 by omega), beq_neH (show q + 1 + 1 ≠ q + 1 by omega)]) .nil (.cons (by (repeat (first | rw [look_cons, if_pos rfl] | rw [look_cons, if_neg (by omega)])); try rfl) (.keep (rowB_hasM _)) (.cons (by (repeat (first | rw [look_cons, if_pos rfl] | rw [look_cons, if_neg (by omega)])); try rfl) (.cons (.ms rfl) .nil) (.cons (by (repeat (first | rw [look_cons, if_pos rfl] | rw [look_cons, if_neg (by omega)])); try rfl) (.keep (hasML_bools _)) .nil))) (.cons rfl (.same rfl) (.cons rfl (.same rfl) (.cons rfl (.same rfl) (.cons rfl (.same rfl) (.cons rfl (.ms rfl) (.cons rfl (.same rfl) (.cons rfl (.same rfl) (.cons rfl (.same rfl) (.cons rfl (.same rfl) (.cons rfl (.mptr rfl) .nil)))))))))) ?_
          have h144 : ∀ (hA : Com Try.prog ca50_0 asg50_0) (hB : Com Try.prog cb50_0 rb50_0) (H : HS), I50 (q + 3) (rowB out) (bitsE m k) (l50 l m k D out.length) 0 H → FT Try.prog w0 N0 144 [.yield (q + 3 + 1) 2, .vptr [.int .i64 (m : Nat)], .vptr [.int .i64 (k : Nat)]] H fun _ H' => Keep (fun j => j < 3 ∨ j = q + 3 ∨ j = q + 3 + 1) H H' ∧ I50 (q + 3) (rowB out) (bitsE m k) (l50 l m k D out.length) m H' := by
            intro hA hB H hI
            have h := range144 (w0 := w0) (N0 := N0) (id := q + 3 + 1) (sp := 2) (M := fun j => j < 3 ∨ j = q + 3 ∨ j = q + 3 + 1) (I := I50 (q + 3) (rowB out) (bitsE m k) (l50 l m k D out.length)) (e := bitsE m k) (by rw [hbl]; exact h1) (by rw [hbl]; exact h4) (fun i H hi h => yield50 (by omega) hA hB i H hi h) H hI
            rw [hbl, hib] at h
            exact h
          have hw0 : w50 (bitsE m k) 0 = List.replicate m false := by unfold w50; rw [List.take_zero, hbl]; rfl
          have hwm : w50 (bitsE m k) m = bitsE m k := by have := w50_end (bitsE m k); rwa [hbl] at this
          refine z_range (.inl rfl) rfl fun hA hB => (h144 hA hB ⟨_, _, _⟩ ?_).mono fun v H2 hF => ?_
          · refine ⟨Nat.le_refl _, ?_, ?_, ?_, ?_, ?_⟩
            · exact look_top
            · exact (look_new (Nat.lt_succ_self _)).trans look_top
            · show Am.look 0 ((q + 3 + 1, _) :: (q + 3, _) :: (0, _) :: _) = _
              exact (by (repeat (first | rw [look_cons, if_pos rfl] | rw [look_cons, if_neg (by omega)])); try rfl)
            · show Am.look 1 ((q + 3 + 1, _) :: (q + 3, _) :: (0, _) :: (1, _) :: _) = _
              rw [hbl]
              exact (by (repeat (first | rw [look_cons, if_pos rfl] | rw [look_cons, if_neg (by omega)])); try rfl)
            · show Am.look 2 ((q + 3 + 1, _) :: (q + 3, _) :: (0, _) :: (1, _) :: (2, _) :: _) = _
              rw [hw0]
              exact (by (repeat (first | rw [look_cons, if_pos rfl] | rw [look_cons, if_neg (by omega)])); try rfl)
          obtain ⟨hK, nx, e4, e3, e0, e1, e2⟩ := hF
          rw [hbl] at e1
          rw [hwm] at e2
          have hold : ∀ z ∈ mksW 3 q, Am.look z.1 H2.heap = some (z.2, .deferred) := fun z hz => by
            obtain ⟨z1, z2, z3⟩ := mksW_mem hz
            refine (hK.look z.1 (fun h => by rcases h with h | h | h <;> omega) (by show z.1 < q + 3 + 2; omega)).trans ?_
            show Am.look z.1 ((q + 3 + 1, _) :: (q + 3, _) :: (0, _) :: (1, _) :: (2, _) :: defsW 3 q) = _
            rw [look_cons, if_neg (by omega), look_cons, if_neg (by omega), look_cons, if_neg (by omega), look_cons, if_neg (by omega), look_cons, if_neg (by omega), look_defsW, if_pos ⟨z1, z2⟩, z3]
          have hmk2 : marksOk ((q + 3, 1) :: mksW 3 q) (dropl (q + 3 + 1) H2.heap) := fun z hz => by
            rcases List.mem_cons.1 hz with rfl | hz
            · rw [look_dropl, if_neg (by omega)]; exact e3
            · have := mksW_mem hz
              rw [look_dropl, if_neg (by omega)]; exact hold z hz
          refine ⟨_, _, .normal, _, _, _, _, _, _, e4, by simp, rfl, hmk2, ?_⟩
          refine u_blk (u_seq ?_)
          refine zq (q := q + 1) (by rw [List.length_cons, mksW_length]) [(some (0, 0), rowB out), (some (1, 0), [.ms 2 0 1 0 m (some m)]), (some (2, 0), (bitsE m k).map AV.bool)] [] [(1, .int .i64 (m : Nat)), (2, .vptr [.vs (cXs l)]), (6, vsI D), (8, .ms 0 0 1 0 out.length none), (23, vsI D), (24, .int .i64 (2 ^ m : Nat)), (25, .int .i64 (k : Nat)), (11, .mptr 1 0 0)] rfl .nil (.cons (by show Am.look 0 (dropl (q + 3 + 1) H2.heap) = _; rw [look_dropl, if_neg (by omega)]; exact e0) (.keep (rowB_hasM _)) (.cons (by show Am.look 1 (dropl (q + 3 + 1) H2.heap) = _; rw [look_dropl, if_neg (by omega)]; exact e1) (.cons (.ms rfl) .nil) (.cons (by show Am.look 2 (dropl (q + 3 + 1) H2.heap) = _; rw [look_dropl, if_neg (by omega)]; exact e2) (.keep (hasML_bools _)) .nil))) (.cons rfl (.same rfl) (.cons rfl (.same rfl) (.cons rfl (.same rfl) (.cons rfl (.ms rfl) (.cons rfl (.same rfl) (.cons rfl (.same rfl) (.cons rfl (.same rfl) (.cons rfl (.mptr rfl) .nil)))))))) ?_
          repeat (first | refine z_region rfl ?_ | refine o_mov rfl ?_ | refine o_load rfl rfl ?_ | refine o_bslice rfl rfl ?_)
          refine o_append_ms [[.ms 2 0 1 0 m (some m)]] rfl rfl (elems_ms (ys := []) look_top rfl (fun x hx => by obtain rfl := List.mem_singleton.1 hx; rfl)) (fun h => Nat.noConfusion h) rfl (by decide) (by (repeat (first | rw [look_cons, if_pos rfl] | rw [look_cons, if_neg (by omega)])); try rfl) (by unfold rowB; rw [List.length_map, Nat.mul_one]) (by show _ + 1 ≤ _; omega) ?_
          repeat (first | refine z_region rfl ?_ | refine o_nil ?_ | refine u_seq ?_ | refine u_blk ?_ | refine o_mov rfl ?_ | refine o_bin (op := .add) rfl rfl rfl ?_)
          rw [wrap_succ k (by omega)]
          have hrow : rowB (lostT l m D (k + 1)) = rowB out ++ [vsB (bitsE m k)] := by rw [hlo]; unfold rowB; rw [List.map_append]; rfl
          exact u_round (show 2 ^ m - (k + 1) < 2 ^ m - k by omega) (sq (mksW_length (q + 1) 3) [(some (0, 2), rowB out ++ [vsB (bitsE m k)])] [(2, 0, (bitsE m k).map AV.bool)] rfl rfl rfl rfl (.cons (by rw [look_putl, if_neg (by omega)]; exact (by (repeat (first | rw [look_cons, if_pos rfl] | rw [look_cons, if_neg (by omega)])); try rfl)) (hasML_bools _) .nil) (.cons (cs := rowB out ++ [.ms 2 0 1 0 m (some m)]) (by rw [look_putl, if_pos rfl]; rfl) (.snoc (rowB_hasM _) (.fms (cs := (bitsE m k).map AV.bool) (xs := (bitsE m k).map fun b => [.bool b]) rfl (by rw [List.length_map, hbl]) (fun y hy => by obtain ⟨z, _, rfl⟩ := List.mem_map.1 hy; rfl) ⟨[], by rw [List.drop_zero, List.append_nil]; exact flat_bools _⟩)) .nil) (l' := [(1, .int .i64 (m : Nat)), (2, .vptr [.vs (cXs l)]), (6, vsI D), (8, .ms 0 0 1 0 (out.length + 1) none), (23, vsI D), (24, .int .i64 (2 ^ m : Nat)), (25, .int .i64 ((k + 1 : Nat) : Int))]) (.cons rfl (.same rfl) (.cons rfl (.same rfl) (.cons rfl (.same rfl) (.cons rfl (.ms rfl) (.cons rfl (.same rfl) (.cons rfl (.same rfl) (.cons rfl (.same rfl) .nil)))))))) ⟨k + 1, q + 1, rfl, hlt, by rw [hrow, hlo, List.length_append]; rfl⟩
        | false =>
          have hlb : lostB l m D k = false := by unfold lostB; rw [hf, Bool.and_false]
          have hlo : lostT l m D (k + 1) = lostT l m D k := by rw [lostT_succ, hlb]; exact List.append_nil _
          repeat (first | refine z_region rfl ?_ | refine o_nil ?_ | refine u_seq ?_ | refine z_ct rfl ?_ | refine z_exit ?_ | refine u_exit ?_ | refine u_exit_seq ?_ | refine o_gy rfl ?_ | refine o_mov rfl ?_ | refine o_pickf rfl rfl ?_ | refine o_un rfl rfl ?_ | refine o_bin (op := .add) rfl rfl rfl ?_)
          rw [wrap_succ k (by omega)]
          exact u_round (show 2 ^ m - (k + 1) < 2 ^ m - k by omega) (sub_keep (l' := [(1, .int .i64 (m : Nat)), (2, .vptr [.vs (cXs l)]), (6, vsI D), (8, .ms 0 0 1 0 ((lostT l m D k).length) none), (23, vsI D), (24, .int .i64 (2 ^ m : Nat)), (25, .int .i64 (k + 1 : Nat))]) (.cons rfl (.cons rfl (.cons rfl (.cons rfl (.cons rfl (.cons rfl (.cons rfl .nil)))))))) ⟨k + 1, q, rfl, hlt, by rw [hlo]⟩
      · have hlb : lostB l m D k = false := by unfold lostB; rw [decide_eq_false hneg, Bool.false_and]
        have hlo : lostT l m D (k + 1) = lostT l m D k := by rw [lostT_succ, hlb]; exact List.append_nil _
        refine o_cmpt rfl rfl (by show some (AV.bool (decide (D.getD k 0 ≥ 0))) = _; rw [decide_eq_true (by omega)]) ?_
        repeat (first | refine z_region rfl ?_ | refine o_nil ?_ | refine u_seq ?_ | refine z_ct rfl ?_ | refine z_exit ?_ | refine u_exit ?_ | refine u_exit_seq ?_ | refine o_gn rfl rfl ?_ | refine o_mov rfl ?_ | refine o_pickt rfl rfl ?_ | refine o_bin (op := .add) rfl rfl rfl ?_)
        rw [wrap_succ k (by omega)]
        exact u_round (show 2 ^ m - (k + 1) < 2 ^ m - k by omega) (sub_keep (l' := [(1, .int .i64 (m : Nat)), (2, .vptr [.vs (cXs l)]), (6, vsI D), (8, .ms 0 0 1 0 ((lostT l m D k).length) none), (23, vsI D), (24, .int .i64 (2 ^ m : Nat)), (25, .int .i64 (k + 1 : Nat))]) (.cons rfl (.cons rfl (.cons rfl (.cons rfl (.cons rfl (.cons rfl (.cons rfl .nil)))))))) ⟨k + 1, q, rfl, hlt, by rw [hlo]⟩
    · have hk2 : k = 2 ^ m := by
        have : ¬ k < 2 ^ m := fun h => of_decide_eq_false h3 (Int.ofNat_lt.2 h)
        omega
      subst hk2
      repeat (first | refine z_seq ?_ | refine o_nil ?_ | refine u_seq ?_ | refine z_cf rfl ?_ | refine z_exit ?_ | refine u_exit_seq ?_)
      refine u_out ?_
      repeat (first | refine z_seq ?_ | refine z_region rfl ?_ | refine o_nil ?_ | refine u_seq ?_ | refine z_ret ?_ | refine u_exit ?_ | refine o_mov rfl ?_)
      refine u_end ⟨.inr rfl, _, rfl, ?_⟩
      refine congrArg AV.tup (pair_eq (view_rowB (d := 2) (sp := 0) _ ?_) rfl)
      show Am.look 0 (dropAll (mksW 1 q) ((0, _) :: defsW 1 q)) = _
      rw [look_dropAllH _ _ _ fun z hz => by have := (mksW_mem hz).1; omega]
      rfl
  · rw [levV, if_neg hg] at p1
    rw [if_neg hg]
    refine o_call rfl rfl p1 (fun h => Bool.noConfusion (show false = true from h)) ?_
    repeat (first | refine z_seq ?_ | refine z_region rfl ?_ | refine o_nil ?_ | refine u_seq ?_ | refine o_mov rfl ?_ | refine o_extract rfl rfl ?_)
    refine o_cmp rfl rfl rfl (fun h => ?_) fun h => absurd (by simpa using h) hg
    repeat (first | refine z_seq ?_ | refine z_region rfl ?_ | refine o_nil ?_ | refine u_seq ?_ | refine z_ct rfl ?_ | refine z_ret ?_ | refine u_ret_seq ?_ | refine o_mov rfl ?_)
    exact u_end ⟨.inr rfl, _, rfl, rfl⟩

end Go.Proofs.Ytoiblgbaeglgoaa
namespace Go.Proofs.Ytoiblgbaeglgoaa
open Go Go.Am

end Go.Proofs.Ytoiblgbaeglgoaa
namespace Go.Proofs.Ytoiblgbaeglgoaa
open Go Go.Am

theorem same59g (e f : List Bool) (he : e.length ≤ 100000) : PF Try.prog 59 [vsB e, vsB f] (.bool (decide (e = f))) := by
  have hel : (e.map fun b => ([.bool b] : List AV)).length = e.length := List.length_map ..
  have hfl : (f.map fun b => ([.bool b] : List AV)).length = f.length := List.length_map ..
  refine PF_of_Z env0_ok fn59 [(0, vsB e), (1, vsB f)] (by show 2 ≤ 26; decide) rfl fun w0 N0 => ?_
  unfold ic59
  repeat (first | refine z_seq ?_ | refine z_region rfl ?_ | refine o_nil ?_ | refine u_seq ?_ | refine o_mov rfl ?_ | refine o_len rfl rfl ?_)
  refine o_cmp rfl rfl rfl (fun h1 => ?_) fun h1 => ?_
  · have h1 := bne_iff_ne.1 h1
    rw [hel, hfl] at h1
    rw [decide_eq_false (fun h => h1 (by rw [h]))]
    repeat (first | refine z_seq ?_ | refine z_region rfl ?_ | refine o_nil ?_ | refine u_seq ?_ | refine z_ct rfl ?_ | refine z_ret ?_ | refine u_ret_seq ?_ | refine o_mov rfl ?_)
    exact u_end ⟨.inr rfl, _, rfl, rfl⟩
  have h1 : (((e.map fun b => ([.bool b] : List AV)).length : Nat) : Int) = ((f.map fun b => ([.bool b] : List AV)).length : Nat) := by simpa using h1
  rw [hel, hfl] at h1
  have hab : e.length = f.length := by omega
  repeat (first | refine z_seq ?_ | refine z_region rfl ?_ | refine o_nil ?_ | refine u_seq ?_ | refine z_block ?_ | refine z_skip ?_ | refine z_cf rfl ?_ | refine o_mov rfl ?_)
  refine z_loop (fun mm S => ∃ i, mm = e.length - i ∧ i ≤ e.length ∧ decide (e = f) = decide (e.drop i = f.drop i) ∧ S = st 26 [(0, vsB e), (1, vsB f), (5, .int .i64 (i : Nat))] [] 0 1) e.length
    (sub_ren0 (l' := [(0, vsB e), (1, vsB f), (5, .int .i64 ((0 : Nat) : Int))]) (.cons rfl (.same rfl) (.cons rfl (.same rfl) (.cons rfl (.same rfl) .nil)))) ⟨0, rfl, Nat.zero_le _, rfl, rfl⟩ ?_
  rintro mm S ⟨i, rfl, hi, hall, rfl⟩
  unfold b59_0
  repeat (first | refine z_seq ?_ | refine z_region rfl ?_ | refine o_mov rfl ?_ | refine o_len rfl rfl ?_)
  rw [hel]
  refine o_cmp rfl rfl rfl (fun h3 => ?_) fun h3 => ?_
  · have hlt : i < e.length := by have := of_decide_eq_true h3; omega
    have hlf : i < f.length := by omega
    have hbe := bool_get hlt
    have hbf := bool_get hlf
    rw [List.drop_eq_getElem_cons hlt, List.drop_eq_getElem_cons hlf] at hall
    rw [show e.getD i false = e[i] from by simp [List.getD_eq_getElem?_getD, hlt]] at hbe
    rw [show f.getD i false = f[i] from by simp [List.getD_eq_getElem?_getD, hlf]] at hbf
    repeat (first | refine z_seq ?_ | refine o_nil ?_ | refine u_seq ?_ | refine z_block ?_ | refine z_skip ?_ | refine z_ct rfl ?_ | refine o_mov rfl ?_ | refine o_load rfl rfl ?_ | refine z_drawn0 env0_ok rfl rfl rfl ?_ | refine o_idxs rfl rfl (by omega) (by assumption) rfl ?_)
    refine o_eqb rfl rfl (fun h => ?_) fun h => ?_
    · have hne : e[i] ≠ f[i] := by simpa using h
      rw [hall, decide_eq_false (fun h => hne (List.cons.inj h).1)]
      repeat (first | refine z_seq ?_ | refine z_region rfl ?_ | refine o_nil ?_ | refine u_seq ?_ | refine z_ct rfl ?_ | refine z_ret ?_ | refine u_ret_seq ?_ | refine u_ret_blk ?_ | refine o_mov rfl ?_)
      refine u_out_ret ?_
      repeat (first | refine u_ret_seq ?_ | refine u_ret_blk ?_)
      exact u_end ⟨.inr rfl, _, rfl, rfl⟩
    · have heq : e[i] = f[i] := by simpa using h
      repeat (first | refine z_region rfl ?_ | refine o_nil ?_ | refine u_seq ?_ | refine u_blk ?_ | refine z_skip ?_ | refine z_cf rfl ?_ | refine o_mov rfl ?_ | refine o_bin (op := .add) rfl rfl rfl ?_)
      rw [wrap_succ i (by omega)]
      exact u_round (show e.length - (i + 1) < e.length - i by omega) (sub_ren0 (l' := [(0, vsB e), (1, vsB f), (5, .int .i64 ((i + 1 : Nat) : Int))]) (.cons rfl (.same rfl) (.cons rfl (.same rfl) (.cons rfl (.same rfl) .nil)))) ⟨i + 1, rfl, hlt, by rw [hall, decide_eq_decide, heq]; exact ⟨fun h => (List.cons.inj h).2, fun h => by rw [h]⟩, rfl⟩
  · have hi2 : i = e.length := by have := of_decide_eq_false h3; omega
    subst hi2
    rw [List.drop_length, hab, List.drop_length, decide_eq_true rfl] at hall
    rw [hall]
    repeat (first | refine o_nil ?_ | refine u_seq ?_ | refine z_cf rfl ?_ | refine z_exit ?_ | refine u_exit_seq ?_)
    refine u_out ?_
    repeat (first | refine z_seq ?_ | refine z_region rfl ?_ | refine o_nil ?_ | refine u_seq ?_ | refine z_ret ?_ | refine u_exit ?_ | refine o_mov rfl ?_)
    exact u_end ⟨.inr rfl, _, rfl, rfl⟩

-- pneumatic/pneumaticlaw50.HomingFollows$1
def ic58 : IC := .seq (.region [⟨(some 3), .mov (.c (.bool false)), none⟩] none)
  (.seq (.region [⟨(some 4), .mov (.t 0), none⟩,
    ⟨(some 5), .load none (.t 1), none⟩,
    ⟨(some 6), .call (.c (.fn 59 [] [])) [(.t 4), (.t 5)], none⟩,
    ⟨(some 3), .mov (.t 6), none⟩] none)
  (.ret))
theorem fn58 : env0.fn 58 = some ⟨7, ic58, [.t 3]⟩ := by kernel_rfl

theorem same58 (e f : List Bool) (he : e.length ≤ 100000) : PF Try.prog 58 [vsB e, .vptr [vsB f]] (.bool (decide (e = f))) := by
  have h := same59g e f he
  refine PF_of_Z env0_ok fn58 [(0, vsB e), (1, .vptr [vsB f])] (by show 2 ≤ 7; decide) rfl fun w0 N0 => ?_
  unfold ic58
  repeat (first | refine z_seq ?_ | refine z_region rfl ?_ | refine o_nil ?_ | refine u_seq ?_ | refine o_mov rfl ?_ | refine o_load rfl rfl ?_)
  refine o_call rfl rfl h (fun h => Bool.noConfusion (show false = true from h)) ?_
  repeat (first | refine o_nil ?_ | refine u_seq ?_ | refine z_ret ?_ | refine o_mov rfl ?_)
  exact u_end ⟨.inr rfl, _, rfl, rfl⟩

def ixB (f : List Bool) : List (List Bool) → Nat → Int
  | [], _ => -1
  | e :: a, b => if e = f then (b : Int) else ixB f a (b + 1)

theorem ixB_any (f : List Bool) : ∀ (a : List (List Bool)) (b : Nat), decide (ixB f a b ≥ 0) = a.any fun e => decide (e = f)
  | [], _ => rfl
  | e :: a, b => by
    rw [ixB, List.any_cons]
    by_cases h : e = f
    · rw [if_pos h, decide_eq_true h, Bool.true_or]
      exact decide_eq_true (by omega)
    · rw [if_neg h, decide_eq_false h, Bool.false_or]
      exact ixB_any f a (b + 1)

def b107_0 : IC := .seq (.region [⟨(some 9), .bin .lss (.t 8) (.t 7), none⟩] none)
  (.seq (.cond (.t 9) (.skip)
  (.exit 0))
  (.seq (.block 1 (.seq (.region [⟨(some 10), .mov (.t 8), none⟩,
    ⟨(some 5), .mov (.t 10), none⟩] none)
  (.seq (.region [⟨(some 11), .mov (.t 1), none⟩,
    ⟨(some 12), .mov (.t 0), none⟩,
    ⟨(some 13), .mov (.t 5), none⟩,
    ⟨(some 14), .idxs 1 (.t 12) (.t 13), none⟩,
    ⟨(some 15), .load none (.t 14), none⟩,
    ⟨(some 16), .call (.t 11) [(.t 15)], none⟩] none)
  (.cond (.t 16) (.seq (.region [⟨(some 17), .mov (.t 5), none⟩,
    ⟨(some 4), .mov (.t 17), none⟩] none)
  (.ret))
  (.skip)))))
  (.region [⟨(some 18), .bin .add (.t 8) (.c (.int .i64 1)), none⟩,
    ⟨(some 8), .mov (.t 18), none⟩] none)))

-- slices.IndexFunc[[][]bool,[]bool]
def ic107 : IC := .seq (.region [⟨(some 4), .mov (.c (.int .i64 0)), none⟩] none)
  (.seq (.seq (.region [⟨(some 6), .mov (.t 0), none⟩,
    ⟨(some 7), .len false (.t 6), none⟩,
    ⟨(some 8), .mov (.c (.int .i64 0)), none⟩] none)
  (.block 0 (.loop b107_0)))
  (.seq (.region [⟨(some 4), .mov (.c (.int .i64 (-1))), none⟩] none)
  (.ret)))
theorem fn107 : env0.fn 107 = some ⟨19, ic107, [.t 4]⟩ := by kernel_rfl

theorem index107 (a : List (List Bool)) (f : List Bool) (ha : a.length ≤ 100000) (hx : ∀ x ∈ a, x.length ≤ 100000) : PF Try.prog 107 [vsL a, .fn 58 [] [.vptr [vsB f]]] (.int .i64 (ixB f a 0)) := by
  have hal : (a.map fun e => ([vsB e] : List AV)).length = a.length := List.length_map ..
  refine PF_of_Z env0_ok fn107 [(0, vsL a), (1, .fn 58 [] [.vptr [vsB f]])] (by show 2 ≤ 19; decide) rfl fun w0 N0 => ?_
  unfold ic107
  repeat (first | refine z_seq ?_ | refine z_region rfl ?_ | refine o_nil ?_ | refine u_seq ?_ | refine z_block ?_ | refine o_mov rfl ?_ | refine o_len rfl rfl ?_)
  rw [hal]
  refine z_loop (fun mm S => ∃ i, mm = a.length - i ∧ i ≤ a.length ∧ ixB f a 0 = ixB f (a.drop i) i ∧ S = st 19 [(0, vsL a), (1, .fn 58 [] [.vptr [vsB f]]), (7, .int .i64 (a.length : Nat)), (8, .int .i64 (i : Nat))] [] 0 1) a.length
    (sub_ren0 (l' := [(0, vsL a), (1, .fn 58 [] [.vptr [vsB f]]), (7, .int .i64 (a.length : Nat)), (8, .int .i64 ((0 : Nat) : Int))]) (.cons rfl (.same rfl) (.cons rfl (.same rfl) (.cons rfl (.same rfl) (.cons rfl (.same rfl) .nil))))) ⟨0, rfl, Nat.zero_le _, rfl, rfl⟩ ?_
  rintro mm S ⟨i, rfl, hi, hix, rfl⟩
  unfold b107_0
  repeat (first | refine z_seq ?_ | refine z_region rfl ?_)
  refine o_cmp rfl rfl rfl (fun h3 => ?_) fun h3 => ?_
  · have hlt : i < a.length := by have := of_decide_eq_true h3; omega
    have hge : (a.map fun e => ([vsB e] : List AV))[((i : Nat) : Int).toNat]? = some [vsB a[i]] := by
      rw [Int.toNat_natCast, List.getElem?_map, List.getElem?_eq_getElem hlt]
      rfl
    have h58 := same58 a[i] f (hx _ (List.getElem_mem hlt))
    rw [List.drop_eq_getElem_cons hlt, ixB] at hix
    generalize a[i] = x at hge h58 hix
    repeat (first | refine z_seq ?_ | refine z_region rfl ?_ | refine o_nil ?_ | refine u_seq ?_ | refine z_block ?_ | refine z_skip ?_ | refine z_ct rfl ?_ | refine o_mov rfl ?_ | refine o_load rfl rfl ?_ | refine o_idxs rfl rfl (by omega) (by assumption) rfl ?_)
    refine o_callv rfl rfl rfl h58 (fun h => Bool.noConfusion (show false = true from h)) ?_
    by_cases hxf : x = f
    · rw [if_pos hxf] at hix
      rw [decide_eq_true hxf, hix]
      repeat (first | refine z_seq ?_ | refine z_region rfl ?_ | refine o_nil ?_ | refine u_seq ?_ | refine z_ct rfl ?_ | refine z_ret ?_ | refine u_ret_seq ?_ | refine u_ret_blk ?_ | refine o_mov rfl ?_)
      refine u_out_ret ?_
      repeat (first | refine u_ret_seq ?_ | refine u_ret_blk ?_)
      exact u_end ⟨.inr rfl, _, rfl, rfl⟩
    · rw [if_neg hxf] at hix
      rw [decide_eq_false hxf]
      repeat (first | refine z_region rfl ?_ | refine o_nil ?_ | refine u_seq ?_ | refine u_blk ?_ | refine z_skip ?_ | refine z_cf rfl ?_ | refine o_mov rfl ?_ | refine o_bin (op := .add) rfl rfl rfl ?_)
      rw [wrap_succ i (by omega)]
      exact u_round (show a.length - (i + 1) < a.length - i by omega) (sub_ren0 (l' := [(0, vsL a), (1, .fn 58 [] [.vptr [vsB f]]), (7, .int .i64 (a.length : Nat)), (8, .int .i64 ((i + 1 : Nat) : Int))]) (.cons rfl (.same rfl) (.cons rfl (.same rfl) (.cons rfl (.same rfl) (.cons rfl (.same rfl) .nil))))) ⟨i + 1, rfl, hlt, hix, rfl⟩
  · have hi2 : i = a.length := by have := of_decide_eq_false h3; omega
    subst hi2
    rw [List.drop_length, ixB] at hix
    rw [hix]
    repeat (first | refine z_seq ?_ | refine o_nil ?_ | refine u_seq ?_ | refine z_cf rfl ?_ | refine z_exit ?_ | refine u_exit_seq ?_)
    refine u_out ?_
    repeat (first | refine z_seq ?_ | refine z_region rfl ?_ | refine o_nil ?_ | refine u_seq ?_ | refine z_ret ?_ | refine u_exit ?_ | refine o_mov rfl ?_)
    exact u_end ⟨.inr rfl, _, rfl, rfl⟩

-- slices.ContainsFunc[[][]bool,[]bool]
def ic57 : IC := .seq (.region [⟨(some 4), .mov (.c (.bool false)), none⟩] none)
  (.seq (.region [⟨(some 5), .mov (.t 0), none⟩,
    ⟨(some 6), .mov (.t 1), none⟩,
    ⟨(some 7), .call (.c (.fn 107 [] [])) [(.t 5), (.t 6)], none⟩,
    ⟨(some 8), .bin .geq (.t 7) (.c (.int .i64 0)), none⟩,
    ⟨(some 4), .mov (.t 8), none⟩] none)
  (.ret))
theorem fn57 : env0.fn 57 = some ⟨9, ic57, [.t 4]⟩ := by kernel_rfl

theorem contains57 (a : List (List Bool)) (f : List Bool) (ha : a.length ≤ 100000) (hx : ∀ x ∈ a, x.length ≤ 100000) : PF Try.prog 57 [vsL a, .fn 58 [] [.vptr [vsB f]]] (.bool (a.any fun e => decide (e = f))) := by
  have h := index107 a f ha hx
  have hi := ixB_any f a 0
  refine PF_of_Z env0_ok fn57 [(0, vsL a), (1, .fn 58 [] [.vptr [vsB f]])] (by show 2 ≤ 9; decide) rfl fun w0 N0 => ?_
  unfold ic57
  repeat (first | refine z_seq ?_ | refine z_region rfl ?_ | refine o_nil ?_ | refine u_seq ?_ | refine o_mov rfl ?_)
  refine o_call rfl rfl h (fun h => Bool.noConfusion (show false = true from h)) ?_
  refine o_bin (op := .geq) rfl rfl rfl ?_
  rw [hi]
  repeat (first | refine o_nil ?_ | refine u_seq ?_ | refine z_ret ?_ | refine o_mov rfl ?_)
  exact u_end ⟨.inr rfl, _, rfl, rfl⟩

theorem lost_any {l : List Ex} {n k : Nat} (h1 : 1 ≤ n) (h4 : n ≤ 4) (D : List Int) (hk : k < 2 ^ n) : ((lostT l n D (2 ^ n)).any fun e => decide (e = bitsE n k)) = lostB l n D k := by
  unfold lostT
  rw [List.any_map, Bool.eq_iff_iff, List.any_eq_true]
  constructor
  · rintro ⟨j, hj, he⟩
    obtain ⟨j1, j2⟩ := List.mem_filter.1 hj
    have he : bitsE n j = bitsE n k := of_decide_eq_true he
    have := congrArg idxE he
    rw [idx_bits h1 h4 (List.mem_range.1 j1), idx_bits h1 h4 hk] at this
    rw [← this]
    exact j2
  · intro h
    exact ⟨k, List.mem_filter.2 ⟨List.mem_range.2 hk, h⟩, decide_eq_true rfl⟩

end Go.Proofs.Ytoiblgbaeglgoaa
namespace Go.Proofs.Ytoiblgbaeglgoaa
open Go Go.Am

theorem progT_get {l : List Ex} {n : Nat} {D : List Int} {k K : Nat} (h : k < K) : (progT l n D K).getD k 0 = progE l n D k := by
  unfold progT
  simp [List.getD_eq_getElem?_getD, h]

theorem eqE0 (b : Bool) : Am.binOp .eql (.int .i64 (if b then (1 : Int) else 0)) (.int .i64 0) = some (.bool (!b)) := by cases b <;> rfl

def b11_2 : IC := .seq (.region [⟨(some 106), .bin .lss (.t 105) (.t 104), none⟩] none)
  (.seq (.cond (.t 106) (.skip)
  (.exit 2))
  (.seq (.block 3 (.seq (.region [⟨(some 107), .mov (.t 7), none⟩,
    ⟨(some 108), .mov (.t 16), none⟩,
    ⟨(some 109), .idxs 1 (.t 107) (.t 108), none⟩,
    ⟨(some 110), .load none (.t 109), none⟩,
    ⟨(some 17), .mov (.t 110), none⟩] none)
  (.seq (.seq (.region [⟨(some 111), .mov (.t 17), none⟩,
    ⟨(some 112), .bin .lss (.t 111) (.c (.int .i64 0)), none⟩,
    ⟨(some 113), .mov (.t 112), none⟩,
    ⟨(some 114), .mov (.t 17), some (113, false)⟩,
    ⟨(some 115), .mov (.t 1), some (113, false)⟩,
    ⟨(some 116), .bin .geq (.t 114) (.t 115), some (113, false)⟩,
    ⟨(some 117), .pick (.t 113) (.c (.bool true)) (.t 116), none⟩] none)
  (.cond (.t 117) (.seq (.region [⟨(some 4), .mov (.c (.bool false)), none⟩] none)
  (.ret))
  (.skip)))
  (.seq (.region [⟨(some 119), .load (some 1) (.t 2), none⟩,
    ⟨(some 120), .mov (.t 1), none⟩,
    ⟨(some 121), .mov (.t 16), none⟩,
    ⟨(some 122), .call (.c (.fn 55 [] [])) [(.t 120), (.t 121)], none⟩,
    ⟨(some 123), .call (.c (.fn 43 [] [])) [(.t 119), (.t 122)], none⟩,
    ⟨(some 118), .mov (.t 123), none⟩,
    ⟨(some 124), .extract (.t 118) 0, none⟩,
    ⟨(some 125), .extract (.t 118) 1, none⟩,
    ⟨(some 18), .mov (.t 124), none⟩,
    ⟨(some 19), .mov (.t 125), none⟩] (some [[], [], [], [1, 2], [0, 3, 3], [4], [5], [5], [6, 4, 0, 1, 2, 3, 4, 5, 6], [7, 8, 0, 1, 2, 3, 4, 5, 6, 7, 8]]))
  (.seq (.seq (.region [⟨(some 126), .mov (.t 19), none⟩,
    ⟨(some 127), .bin .neq (.t 126) (.c (.int .i64 0)), none⟩,
    ⟨(some 128), .mov (.t 127), none⟩,
    ⟨(some 129), .mov (.t 18), some (128, false)⟩,
    ⟨(some 130), .mov (.t 17), some (128, false)⟩,
    ⟨(some 131), .mov (.t 16), some (128, false)⟩,
    ⟨(some 132), .mov (.t 17), some (128, false)⟩,
    ⟨(some 133), .bin .shr (.t 131) (.t 132), some (128, false)⟩,
    ⟨(some 134), .bin .and (.t 133) (.c (.int .i64 1)), some (128, false)⟩,
    ⟨(some 135), .bin .eql (.t 134) (.c (.int .i64 0)), some (128, false)⟩,
    ⟨(some 136), .build [.int .i64 0, .bool false] [(0, 1, (.t 130)), (1, 1, (.t 135))], some (128, false)⟩,
    ⟨(some 137), .call (.c (.fn 45 [] [])) [(.t 129), (.t 136)], some (128, false)⟩,
    ⟨(some 138), .un .not (.t 137), some (128, false)⟩,
    ⟨(some 139), .pick (.t 128) (.c (.bool true)) (.t 138), none⟩] none)
  (.cond (.t 139) (.seq (.region [⟨(some 4), .mov (.c (.bool false)), none⟩] none)
  (.ret))
  (.skip)))
  (.region [⟨(some 140), .mov (.t 16), none⟩,
    ⟨(some 141), .mov (.t 17), none⟩,
    ⟨(some 142), .bin .shl (.c (.int .i64 1)) (.t 141), none⟩,
    ⟨(some 143), .bin .xor (.t 140) (.t 142), none⟩,
    ⟨(some 16), .mov (.t 143), none⟩] none))))))
  (.region [⟨(some 144), .bin .add (.t 105) (.c (.int .i64 1)), none⟩,
    ⟨(some 105), .mov (.t 144), none⟩] none)))

def b11_0 : IC := .seq (.region [⟨(some 66), .bin .lss (.t 65) (.t 64), none⟩] none)
  (.seq (.cond (.t 66) (.skip)
  (.exit 0))
  (.seq (.block 1 (.seq (.region [⟨(some 67), .mov (.t 65), none⟩,
    ⟨(some 11), .mov (.t 67), none⟩] none)
  (.seq (.seq (.region [⟨(some 68), .mov (.t 5), none⟩,
    ⟨(some 69), .mov (.t 11), none⟩,
    ⟨(some 70), .idxs 1 (.t 68) (.t 69), none⟩,
    ⟨(some 71), .load none (.t 70), none⟩,
    ⟨(some 72), .bin .lss (.t 71) (.c (.int .i64 0)), none⟩] none)
  (.cond (.t 72) (.seq (.region [⟨(some 73), .mov (.t 1), none⟩,
    ⟨(some 74), .mov (.t 11), none⟩,
    ⟨(some 75), .call (.c (.fn 55 [] [])) [(.t 73), (.t 74)], none⟩,
    ⟨(some 12), .alloc [.nils], none⟩,
    ⟨none, .store 1 (.t 12) (.t 75), none⟩] none)
  (.seq (.region [⟨(some 77), .load (some 1) (.t 2), none⟩,
    ⟨(some 78), .load none (.t 12), none⟩,
    ⟨(some 79), .call (.c (.fn 56 [] [])) [(.t 78)], none⟩,
    ⟨(some 80), .call (.c (.fn 25 [] [])) [(.t 77), (.t 79)], none⟩,
    ⟨(some 76), .mov (.t 80), none⟩,
    ⟨(some 81), .extract (.t 76) 0, none⟩,
    ⟨(some 82), .extract (.t 76) 1, none⟩,
    ⟨(some 13), .mov (.t 81), none⟩,
    ⟨(some 14), .mov (.t 82), none⟩] (some [[], [], [1], [0, 2, 2], [3], [4], [4], [5, 3, 0, 1, 2, 3, 4, 5], [6, 7, 0, 1, 2, 3, 4, 5, 6, 7]]))
  (.seq (.region [⟨(some 83), .mov (.t 9), none⟩,
    ⟨(some 84), .mkfn 58 [] [(.t 12)], none⟩,
    ⟨(some 85), .call (.c (.fn 57 [] [])) [(.t 83), (.t 84)], none⟩,
    ⟨(some 15), .mov (.t 85), none⟩] none)
  (.seq (.seq (.region [⟨(some 86), .mov (.t 14), none⟩,
    ⟨(some 87), .bin .neq (.t 86) (.c (.int .i64 0)), none⟩,
    ⟨(some 88), .mov (.t 87), none⟩,
    ⟨(some 89), .mov (.t 13), some (88, false)⟩,
    ⟨(some 90), .mov (.t 15), some (88, false)⟩,
    ⟨(some 91), .eqb true (.t 89) (.t 90), some (88, false)⟩,
    ⟨(some 92), .pick (.t 88) (.c (.bool true)) (.t 91), none⟩,
    ⟨(some 93), .mov (.t 92), none⟩,
    ⟨(some 94), .mov (.t 7), some (93, false)⟩,
    ⟨(some 95), .mov (.t 11), some (93, false)⟩,
    ⟨(some 96), .idxs 1 (.t 94) (.t 95), some (93, false)⟩,
    ⟨(some 97), .load none (.t 96), some (93, false)⟩,
    ⟨(some 98), .bin .neq (.t 97) (.c (.int .i64 (-2))), some (93, false)⟩,
    ⟨(some 99), .pick (.t 93) (.c (.bool true)) (.t 98), none⟩] none)
  (.cond (.t 99) (.seq (.region [⟨(some 4), .mov (.c (.bool false)), none⟩] none)
  (.ret))
  (.skip)))
  (.exit 1)))))
  (.skip)))
  (.seq (.region [⟨(some 100), .mov (.t 11), none⟩,
    ⟨(some 16), .mov (.t 100), none⟩] none)
  (.seq (.seq (.region [⟨(some 101), .mov (.t 5), none⟩,
    ⟨(some 102), .mov (.t 11), none⟩,
    ⟨(some 103), .idxs 1 (.t 101) (.t 102), none⟩,
    ⟨(some 104), .load none (.t 103), none⟩,
    ⟨(some 105), .mov (.c (.int .i64 0)), none⟩] none)
  (.block 2 (.loop b11_2)))
  (.seq (.region [⟨(some 145), .mov (.t 16), none⟩,
    ⟨(some 146), .bin .neq (.t 145) (.c (.int .i64 0)), none⟩,
    ⟨(some 147), .mov (.t 146), none⟩,
    ⟨(some 148), .mov (.t 5), some (147, false)⟩,
    ⟨(some 149), .mov (.t 11), some (147, false)⟩,
    ⟨(some 150), .idxs 1 (.t 148) (.t 149), some (147, false)⟩,
    ⟨(some 151), .load none (.t 150), some (147, false)⟩,
    ⟨(some 152), .mov (.t 1), some (147, false)⟩,
    ⟨(some 153), .bin .shl (.c (.int .i64 1)) (.t 152), some (147, false)⟩,
    ⟨(some 154), .bin .geq (.t 151) (.t 153), some (147, false)⟩,
    ⟨(some 155), .pick (.t 147) (.c (.bool true)) (.t 154), none⟩,
    ⟨(some 156), .mov (.t 155), none⟩,
    ⟨(some 157), .mov (.t 7), some (156, false)⟩,
    ⟨(some 158), .idxs 1 (.t 157) (.c (.int .i64 0)), some (156, false)⟩,
    ⟨(some 159), .load none (.t 158), some (156, false)⟩,
    ⟨(some 160), .bin .neq (.t 159) (.c (.int .i64 (-1))), some (156, false)⟩,
    ⟨(some 161), .pick (.t 156) (.c (.bool true)) (.t 160), none⟩] (some [[], [0], [1], [2], [2], [3, 4, 2], [5, 2], [2], [7, 2], [6, 8, 2], [2, 9], [10, 2], [11], [12, 11], [13, 11], [14, 11], [11, 15]]))
  (.cond (.t 161) (.seq (.region [⟨(some 4), .mov (.c (.bool false)), none⟩] none)
  (.ret))
  (.skip))))))))
  (.region [⟨(some 162), .bin .add (.t 65) (.c (.int .i64 1)), none⟩,
    ⟨(some 65), .mov (.t 162), none⟩] none)))

-- pneumatic/pneumaticlaw50.HomingFollows
def ic11 : IC := .seq (.region [⟨(some 2), .box (.t 0), none⟩,
    ⟨(some 4), .mov (.c (.bool false)), none⟩] none)
  (.seq (.seq (.region [⟨(some 20), .load (some 1) (.t 2), none⟩,
    ⟨(some 21), .mov (.t 1), none⟩,
    ⟨(some 22), .call (.c (.fn 40 [] [])) [(.t 20), (.t 21)], none⟩,
    ⟨(some 23), .un .not (.t 22), none⟩] none)
  (.cond (.t 23) (.seq (.region [⟨(some 24), .call (.c (.fn 36 [] [])) [], none⟩,
    ⟨(some 4), .mov (.t 24), none⟩] none)
  (.ret))
  (.skip)))
  (.seq (.region [⟨(some 26), .load (some 1) (.t 2), none⟩,
    ⟨(some 27), .mov (.t 1), none⟩,
    ⟨(some 28), .call (.c (.fn 42 [] [])) [(.t 26), (.t 27)], none⟩,
    ⟨(some 25), .mov (.t 28), none⟩,
    ⟨(some 29), .extract (.t 25) 0, none⟩,
    ⟨(some 30), .extract (.t 25) 1, none⟩,
    ⟨(some 5), .mov (.t 29), none⟩,
    ⟨(some 6), .mov (.t 30), none⟩] none)
  (.seq (.region [⟨(some 32), .load (some 1) (.t 2), none⟩,
    ⟨(some 33), .mov (.t 1), none⟩,
    ⟨(some 34), .call (.c (.fn 53 [] [])) [(.t 32), (.t 33)], none⟩,
    ⟨(some 31), .mov (.t 34), none⟩,
    ⟨(some 35), .extract (.t 31) 0, none⟩,
    ⟨(some 36), .extract (.t 31) 1, none⟩,
    ⟨(some 7), .mov (.t 35), none⟩,
    ⟨(some 8), .mov (.t 36), none⟩] none)
  (.seq (.region [⟨(some 38), .load (some 1) (.t 2), none⟩,
    ⟨(some 39), .mov (.t 1), none⟩,
    ⟨(some 40), .call (.c (.fn 50 [] [])) [(.t 38), (.t 39)], none⟩,
    ⟨(some 37), .mov (.t 40), none⟩,
    ⟨(some 41), .extract (.t 37) 0, none⟩,
    ⟨(some 42), .extract (.t 37) 1, none⟩,
    ⟨(some 9), .mov (.t 41), none⟩,
    ⟨(some 10), .mov (.t 42), none⟩] none)
  (.seq (.seq (.region [⟨(some 43), .mov (.t 6), none⟩,
    ⟨(some 44), .mov (.t 8), none⟩,
    ⟨(some 45), .bin .add (.t 43) (.t 44), none⟩,
    ⟨(some 46), .mov (.t 10), none⟩,
    ⟨(some 47), .bin .add (.t 45) (.t 46), none⟩,
    ⟨(some 48), .bin .neq (.t 47) (.c (.int .i64 0)), none⟩,
    ⟨(some 49), .mov (.t 48), none⟩,
    ⟨(some 50), .mov (.t 5), some (49, false)⟩,
    ⟨(some 51), .len false (.t 50), some (49, false)⟩,
    ⟨(some 52), .mov (.t 1), some (49, false)⟩,
    ⟨(some 53), .bin .shl (.c (.int .i64 1)) (.t 52), some (49, false)⟩,
    ⟨(some 54), .bin .neq (.t 51) (.t 53), some (49, false)⟩,
    ⟨(some 55), .pick (.t 49) (.c (.bool true)) (.t 54), none⟩,
    ⟨(some 56), .mov (.t 55), none⟩,
    ⟨(some 57), .mov (.t 7), some (56, false)⟩,
    ⟨(some 58), .len false (.t 57), some (56, false)⟩,
    ⟨(some 59), .mov (.t 1), some (56, false)⟩,
    ⟨(some 60), .bin .shl (.c (.int .i64 1)) (.t 59), some (56, false)⟩,
    ⟨(some 61), .bin .neq (.t 58) (.t 60), some (56, false)⟩,
    ⟨(some 62), .pick (.t 56) (.c (.bool true)) (.t 61), none⟩] none)
  (.cond (.t 62) (.seq (.region [⟨(some 4), .mov (.c (.bool false)), none⟩] none)
  (.ret))
  (.skip)))
  (.seq (.seq (.region [⟨(some 63), .mov (.t 1), none⟩,
    ⟨(some 64), .bin .shl (.c (.int .i64 1)) (.t 63), none⟩,
    ⟨(some 65), .mov (.c (.int .i64 0)), none⟩] none)
  (.block 0 (.loop b11_0)))
  (.seq (.region [⟨(some 163), .call (.c (.fn 36 [] [])) [], none⟩,
    ⟨(some 4), .mov (.t 163), none⟩] none)
  (.ret))))))))
theorem fn11 : env0.fn 11 = some ⟨164, ic11, [.t 4]⟩ := by kernel_rfl

set_option maxRecDepth 20000 in
set_option maxHeartbeats 8000000 in
theorem law11h (l : List Ex) (hlen : l.length < 9223372036854775808) (hsl : ∀ y ∈ l, Slim y) (n : Int) : PF Try.prog 11 [.agg [.vs (cXs l)], .int .i64 n] (.bool true) := by
  have hright := right40 l hlen hsl n
  have haw := awake36'
  refine PF_of_Z env0_ok fn11 [(0, .agg [.vs (cXs l)]), (1, .int .i64 n)] (by show 2 ≤ 164; decide) rfl fun w0 N0 => ?_
  unfold ic11
  repeat (first | refine z_seq ?_ | refine z_region rfl ?_ | refine o_nil ?_ | refine u_seq ?_ | refine o_mov rfl ?_ | refine o_loadn rfl rfl rfl rfl ?_ | refine o_box rfl rfl ?_)
  refine o_call rfl rfl hright (fun h => Bool.noConfusion (show false = true from h)) ?_
  cases hr : rightB l n with
  | false =>
    repeat (first | refine z_seq ?_ | refine z_region rfl ?_ | refine o_nil ?_ | refine u_seq ?_ | refine z_ct rfl ?_ | refine o_un rfl rfl ?_)
    refine o_call rfl rfl haw (fun h => Bool.noConfusion (show false = true from h)) ?_
    repeat (first | refine o_nil ?_ | refine u_seq ?_ | refine z_ret ?_ | refine u_ret_seq ?_ | refine o_mov rfl ?_)
    exact u_end ⟨.inr rfl, _, rfl, rfl⟩
  | true =>
    obtain ⟨r1, r2, r3, hg⟩ := right_ok hr
    obtain ⟨m, rfl⟩ : ∃ m : Nat, n = (m : Int) := ⟨n.toNat, by omega⟩
    have h1 : 1 ≤ m := by omega
    have h4 : m ≤ 4 := by omega
    have hD := lev_any (l := l) h1 h4
    have hp4 := pow4 h4
    have p1 := levels42 l hsl (m : Int) fun _ => by omega
    have p2 := program53 l hsl (m : Int) fun _ => by omega
    have p3 := lost50 l hsl (m : Int) fun _ => by omega
    rw [levV, if_pos hg, Int.toNat_natCast] at p1
    rw [progV, if_pos hg, Int.toNat_natCast] at p2
    rw [lostV, if_pos hg, Int.toNat_natCast] at p3
    have hprv : ∀ k, k < 2 ^ m → Prv l m (levL l m) k := fun k hk => lev_prv l h1 h4 hk
    generalize levL l m = D at *
    have hDl : (D.map fun z => ([.int .i64 z] : List AV)).length = 2 ^ m := by rw [List.length_map, hD.len]
    have hPl : ((progT l m D (2 ^ m)).map fun z => ([.int .i64 z] : List AV)).length = 2 ^ m := by rw [List.length_map, progT_len]
    repeat (first | refine z_seq ?_ | refine z_region rfl ?_ | refine o_nil ?_ | refine u_seq ?_ | refine z_skip ?_ | refine z_cf rfl ?_ | refine o_mov rfl ?_ | refine o_loadn rfl rfl rfl rfl ?_ | refine o_un rfl rfl ?_)
    refine o_call rfl rfl p1 (fun h => Bool.noConfusion (show false = true from h)) ?_
    repeat (first | refine z_seq ?_ | refine z_region rfl ?_ | refine o_nil ?_ | refine u_seq ?_ | refine o_mov rfl ?_ | refine o_loadn rfl rfl rfl rfl ?_ | refine o_extract rfl rfl ?_)
    refine o_call rfl rfl p2 (fun h => Bool.noConfusion (show false = true from h)) ?_
    repeat (first | refine z_seq ?_ | refine z_region rfl ?_ | refine o_nil ?_ | refine u_seq ?_ | refine o_mov rfl ?_ | refine o_loadn rfl rfl rfl rfl ?_ | refine o_extract rfl rfl ?_)
    refine o_call rfl rfl p3 (fun h => Bool.noConfusion (show false = true from h)) ?_
    repeat (first | refine z_seq ?_ | refine z_region rfl ?_ | refine o_nil ?_ | refine u_seq ?_ | refine o_gy rfl ?_ | refine o_mov rfl ?_ | refine o_len rfl rfl ?_ | refine o_extract rfl rfl ?_ | refine o_bin (op := .add) rfl rfl rfl ?_ | refine o_cmpf rfl rfl rfl ?_)
    rw [hDl]
    refine o_bin (op := .shl) rfl rfl (shl4 h4) ?_
    refine o_gy rfl ?_
    refine o_cmp rfl rfl rfl (fun h => absurd h (by simp)) fun _ => ?_
    repeat (first | refine o_gy rfl ?_ | refine o_mov rfl ?_ | refine o_pickf rfl rfl ?_ | refine o_len rfl rfl ?_)
    rw [hPl]
    refine o_bin (op := .shl) rfl rfl (shl4 h4) ?_
    refine o_gy rfl ?_
    refine o_cmp rfl rfl rfl (fun h => absurd h (by simp)) fun _ => ?_
    repeat (first | refine z_seq ?_ | refine z_region rfl ?_ | refine o_nil ?_ | refine u_seq ?_ | refine z_skip ?_ | refine z_cf rfl ?_ | refine o_mov rfl ?_ | refine o_pickf rfl rfl ?_)
    refine o_bin (op := .shl) rfl rfl (shl4 h4) ?_
    repeat (first | refine o_nil ?_ | refine u_seq ?_ | refine z_block ?_ | refine o_mov rfl ?_)
    refine z_loop (fun mm S => ∃ k, mm = 2 ^ m - k ∧ k ≤ 2 ^ m ∧ S = st 164 [(1, .int .i64 (m : Nat)), (2, .vptr [.vs (cXs l)]), (5, vsI D), (7, vsI (progT l m D (2 ^ m))), (9, vsL (lostT l m D (2 ^ m))), (64, .int .i64 (2 ^ m : Nat)), (65, .int .i64 (k : Nat))] [] 0 1) (2 ^ m)
      (sub_renw [] [(0, 0, [.vs (cXs l)])] rfl rfl rfl (.cons rfl rfl .nil) .nil (l' := [(1, .int .i64 (m : Nat)), (2, .vptr [.vs (cXs l)]), (5, vsI D), (7, vsI (progT l m D (2 ^ m))), (9, vsL (lostT l m D (2 ^ m))), (64, .int .i64 (2 ^ m : Nat)), (65, .int .i64 ((0 : Nat) : Int))]) (.cons rfl (.same rfl) (.cons rfl (.fptr rfl rfl) (.cons rfl (.same rfl) (.cons rfl (.same rfl) (.cons rfl (.same rfl) (.cons rfl (.same rfl) (.cons rfl (.same rfl) .nil)))))))) ⟨0, rfl, Nat.zero_le _, rfl⟩ ?_
    rintro mm S ⟨k, rfl, hk, rfl⟩
    unfold b11_0
    repeat (first | refine z_seq ?_ | refine z_region rfl ?_)
    refine o_cmp rfl rfl rfl (fun h3 => ?_) fun h3 => ?_
    · have hlt : k < 2 ^ m := Int.ofNat_lt.1 (of_decide_eq_true h3)
      have gk := vsI_getD (D := D) (k := k) (by rw [hD.len]; exact hlt)
      have gpk := vsI_getD (D := progT l m D (2 ^ m)) (k := k) (by rw [progT_len]; exact hlt)
      rw [progT_get hlt] at gpk
      have hbl := bitsE_len m k
      have hib := idx_bits h1 h4 hlt
      repeat (first | refine z_seq ?_ | refine z_region rfl ?_ | refine o_nil ?_ | refine u_seq ?_ | refine z_block ?_ | refine z_skip ?_ | refine z_ct rfl ?_ | refine o_mov rfl ?_ | refine o_load rfl rfl ?_ | refine o_idxs rfl rfl (by omega) (by assumption) rfl ?_)
      by_cases hneg : D.getD k 0 < 0
      · have hpe : progE l m D k = -2 := by unfold progE; rw [if_pos hneg]
        have hlb : lostB l m D k = freeB l (posE (bitsE m k)) := by unfold lostB; rw [decide_eq_true hneg, Bool.true_and]
        have h55 := ends55 (e := bitsE m k) (by rw [hbl]; exact h1) (by rw [hbl]; exact h4)
        rw [hbl, hib] at h55
        have h56 := pos56 (e := bitsE m k) (by rw [hbl]; exact h1) (by rw [hbl]; exact h4)
        have h25 := allowed24 l hsl (posE (bitsE m k))
        rw [allowedV, if_pos (posC_pos (by rw [hbl]; exact hg)), show (trues l (posE (bitsE m k))).isEmpty = freeB l (posE (bitsE m k)) from rfl] at h25
        have h57 := contains57 (lostT l m D (2 ^ m)) (bitsE m k) (by have := lostT_len l m D (2 ^ m); omega) (fun x hx => by obtain ⟨j, _, rfl⟩ := List.mem_map.1 hx; rw [bitsE_len]; omega)
        rw [lost_any h1 h4 D hlt, hlb] at h57
        rw [hpe] at gpk
        refine o_cmpt rfl rfl (by show some (AV.bool (decide (D.getD k 0 < 0))) = _; rw [decide_eq_true hneg]) ?_
        repeat (first | refine z_seq ?_ | refine z_region rfl ?_ | refine o_nil ?_ | refine u_seq ?_ | refine z_ct rfl ?_ | refine o_mov rfl ?_)
        refine o_call rfl rfl h55 (fun h => Bool.noConfusion (show false = true from h)) ?_
        repeat (first | refine z_seq ?_ | refine o_nil ?_ | refine u_seq ?_ | refine o_store rfl rfl rfl rfl rfl rfl rfl ?_ | refine o_alloc ?_)
        refine z_renw [] [(0, 1, [vsB (bitsE m k)])] [(1, .int .i64 (m : Nat)), (2, .vptr [.vs (cXs l)]), (5, vsI D), (7, vsI (progT l m D (2 ^ m))), (9, vsL (lostT l m D (2 ^ m))), (64, .int .i64 (2 ^ m : Nat)), (65, .int .i64 (k : Nat)), (11, .int .i64 (k : Nat)), (12, .vptr [vsB (bitsE m k)])] rfl (.cons rfl rfl .nil) .nil (.cons rfl (.same rfl) (.cons rfl (.same rfl) (.cons rfl (.same rfl) (.cons rfl (.same rfl) (.cons rfl (.same rfl) (.cons rfl (.same rfl) (.cons rfl (.same rfl) (.cons rfl (.same rfl) (.cons rfl (.fptr rfl rfl) .nil))))))))) ?_
        refine z_drawn env0_ok [(56, [vsB (bitsE m k)], vsI (posE (bitsE m k))), (25, [.agg [.vs (cXs l)], vsI (posE (bitsE m k))], .tup [.bool (freeB l (posE (bitsE m k))), .int .i64 0])] (fun x hx => by
          rcases List.mem_cons.1 hx with rfl | hx
          · exact h56
          obtain rfl := List.mem_singleton.1 hx
          exact h25) (fun f => Nat.beq f 56 || Nat.beq f 25) rfl rfl rfl ?_
        repeat (first | refine o_load rfl rfl ?_ | refine o_loadn rfl rfl rfl rfl ?_)
        refine o_call rfl rfl lookL_here (fun h => Bool.noConfusion (show false = true from h)) ?_
        refine o_call rfl rfl (lookL_next (by decide) lookL_here) (fun h => Bool.noConfusion (show false = true from h)) ?_
        repeat (first | refine z_seq ?_ | refine z_region rfl ?_ | refine o_nil ?_ | refine u_seq ?_ | refine o_mov rfl ?_ | refine o_mkfn rfl rfl ?_ | refine o_extract rfl rfl ?_)
        refine o_call rfl rfl h57 (fun h => Bool.noConfusion (show false = true from h)) ?_
        repeat (first | refine z_seq ?_ | refine z_region rfl ?_ | refine o_nil ?_ | refine u_seq ?_ | refine o_gy rfl ?_ | refine o_mov rfl ?_ | refine o_cmpf rfl rfl rfl ?_)
        refine o_eqb rfl rfl (fun h => absurd h (by simp)) fun _ => ?_
        repeat (first | refine z_region rfl ?_ | refine o_nil ?_ | refine u_seq ?_ | refine z_skip ?_ | refine z_cf rfl ?_ | refine z_exit ?_ | refine u_exit ?_ | refine u_exit_seq ?_ | refine o_gy rfl ?_ | refine o_mov rfl ?_ | refine o_load rfl rfl ?_ | refine o_pickf rfl rfl ?_ | refine o_bin (op := .add) rfl rfl rfl ?_ | refine o_cmpf rfl rfl rfl ?_ | refine o_idxs rfl rfl (by omega) (by assumption) rfl ?_)
        rw [wrap_succ k (by omega)]
        exact u_round (show 2 ^ m - (k + 1) < 2 ^ m - k by omega) (sub_ren0 (l' := [(1, .int .i64 (m : Nat)), (2, .vptr [.vs (cXs l)]), (5, vsI D), (7, vsI (progT l m D (2 ^ m))), (9, vsL (lostT l m D (2 ^ m))), (64, .int .i64 (2 ^ m : Nat)), (65, .int .i64 ((k + 1 : Nat) : Int))]) (.cons rfl (.same rfl) (.cons rfl (.same rfl) (.cons rfl (.same rfl) (.cons rfl (.same rfl) (.cons rfl (.same rfl) (.cons rfl (.same rfl) (.cons rfl (.same rfl) .nil)))))))) ⟨k + 1, rfl, hlt, rfl⟩
      · refine o_cmpf rfl rfl (by show some (AV.bool (decide (D.getD k 0 < 0))) = _; rw [decide_eq_false hneg]) ?_
        repeat (first | refine z_seq ?_ | refine z_region rfl ?_ | refine o_nil ?_ | refine u_seq ?_ | refine z_block ?_ | refine z_skip ?_ | refine z_cf rfl ?_ | refine o_mov rfl ?_ | refine o_load rfl rfl ?_ | refine o_idxs rfl rfl (by omega) (by assumption) rfl ?_)
        have hdk : D.getD k 0 = (((D.getD k 0).toNat : Nat) : Int) := by omega
        have hhi := hD.hi k hlt
        rw [hdk]
        refine z_loop (fun mm S => ∃ j x, mm = (D.getD k 0).toNat - j ∧ j ≤ (D.getD k 0).toNat ∧ x < 2 ^ m ∧ D.getD x 0 = (((D.getD k 0).toNat - j : Nat) : Int) ∧ S = st 164 [(1, .int .i64 (m : Nat)), (2, .vptr [.vs (cXs l)]), (5, vsI D), (7, vsI (progT l m D (2 ^ m))), (9, vsL (lostT l m D (2 ^ m))), (64, .int .i64 (2 ^ m : Nat)), (65, .int .i64 (k : Nat)), (11, .int .i64 (k : Nat)), (16, .int .i64 (x : Nat)), (104, .int .i64 ((D.getD k 0).toNat : Nat)), (105, .int .i64 (j : Nat))] [] 0 1) (D.getD k 0).toNat
          (sub_ren0 (l' := [(1, .int .i64 (m : Nat)), (2, .vptr [.vs (cXs l)]), (5, vsI D), (7, vsI (progT l m D (2 ^ m))), (9, vsL (lostT l m D (2 ^ m))), (64, .int .i64 (2 ^ m : Nat)), (65, .int .i64 (k : Nat)), (11, .int .i64 (k : Nat)), (16, .int .i64 (k : Nat)), (104, .int .i64 ((D.getD k 0).toNat : Nat)), (105, .int .i64 ((0 : Nat) : Int))]) (.cons rfl (.same rfl) (.cons rfl (.same rfl) (.cons rfl (.same rfl) (.cons rfl (.same rfl) (.cons rfl (.same rfl) (.cons rfl (.same rfl) (.cons rfl (.same rfl) (.cons rfl (.same rfl) (.cons rfl (.same rfl) (.cons rfl (.same rfl) (.cons rfl (.same rfl) .nil)))))))))))) ⟨0, k, rfl, Nat.zero_le _, hlt, by omega, rfl⟩ ?_
        rintro mm S ⟨j, x, rfl, hj, hx, hdx, rfl⟩
        unfold b11_2
        repeat (first | refine z_seq ?_ | refine z_region rfl ?_)
        refine o_cmp rfl rfl rfl (fun h5 => ?_) fun h5 => ?_
        · have hjl : j < (D.getD k 0).toNat := by have := of_decide_eq_true h5; omega
          obtain ⟨i, hfi, him, hDi⟩ := down_some h1 h4 hD hx (by omega)
          have hin := mv_lt him
          have hpe : progE l m D x = (i : Int) := by unfold progE; rw [if_neg (by omega), if_neg (by omega), hfi]
          have gpx := vsI_getD (D := progT l m D (2 ^ m)) (k := x) (by rw [progT_len]; exact hx)
          rw [progT_get hx, hpe] at gpx
          have hbx := bitsE_len m x
          have hibx := idx_bits h1 h4 hx
          have h55 := ends55 (e := bitsE m x) (by rw [hbx]; exact h1) (by rw [hbx]; exact h4)
          rw [hbx, hibx] at h55
          have h43 := permitted43 l hsl (bitsE m x) fun _ => by rw [hbx]; exact h4
          rw [permV, if_pos (by rw [hbx]; exact hg)] at h43
          have h45 := contains45 (movesL l (bitsE m x)) ⟨(i : Nat), !((bitsE m x).getD i false)⟩ (by have := movesT_len l (bitsE m x) (bitsE m x).length; show (movesT l (bitsE m x) (bitsE m x).length).length ≤ _; omega)
          rw [moves_any l (bitsE m x) (by rw [hbx]; exact hin), (List.mem_filter.1 him).2] at h45
          unfold cS at h45
          have hs := shrE (e := bitsE m x) (i := i) (by rw [hbx]; exact h1) (by rw [hbx]; exact h4) (by rw [hbx]; exact hin)
          have ha := andE (e := bitsE m x) (i := i) (by rw [hbx]; exact h1) (by rw [hbx]; exact h4) (by rw [hbx]; exact hin)
          have hxo := xorE (e := bitsE m x) (by rw [hbx]; exact h1) (by rw [hbx]; exact h4) (by rw [hbx]; exact hin)
          rw [hibx] at hs ha hxo
          rw [show idxE (flipE (bitsE m x) i) = nxt m x i from rfl] at hxo
          repeat (first | refine z_seq ?_ | refine z_region rfl ?_ | refine o_nil ?_ | refine u_seq ?_ | refine z_block ?_ | refine z_skip ?_ | refine z_ct rfl ?_ | refine o_gy rfl ?_ | refine o_mov rfl ?_ | refine o_load rfl rfl ?_ | refine o_cmpf rfl rfl rfl ?_ | refine o_idxs rfl rfl (by omega) (by assumption) rfl ?_)
          refine o_cmpf rfl rfl (by show some (AV.bool (decide (((i : Nat) : Int) ≥ (m : Nat)))) = _; rw [decide_eq_false (by omega)]) ?_
          repeat (first | refine z_seq ?_ | refine o_nil ?_ | refine u_seq ?_ | refine z_skip ?_ | refine z_cf rfl ?_ | refine o_pickf rfl rfl ?_)
          refine z_drawn env0_ok [(55, [.int .i64 (m : Nat), .int .i64 (x : Nat)], vsB (bitsE m x)), (43, [.agg [.vs (cXs l)], vsB (bitsE m x)], .tup [.vs (cSs (movesL l (bitsE m x))), .int .i64 0])] (fun y hy => by
            rcases List.mem_cons.1 hy with rfl | hy
            · exact h55
            obtain rfl := List.mem_singleton.1 hy
            exact h43) (fun f => Nat.beq f 55 || Nat.beq f 43) rfl rfl rfl ?_
          repeat (first | refine o_mov rfl ?_ | refine o_loadn rfl rfl rfl rfl ?_)
          refine o_call rfl rfl lookL_here (fun h => Bool.noConfusion (show false = true from h)) ?_
          refine o_call rfl rfl (lookL_next (by decide) lookL_here) (fun h => Bool.noConfusion (show false = true from h)) ?_
          repeat (first | refine z_seq ?_ | refine z_region rfl ?_ | refine o_nil ?_ | refine u_seq ?_ | refine o_gy rfl ?_ | refine o_mov rfl ?_ | refine o_extract rfl rfl ?_ | refine o_cmpf rfl rfl rfl ?_)
          refine o_bin (op := .shr) rfl rfl hs ?_
          refine o_gy rfl ?_
          refine o_bin (op := .and) rfl rfl ha ?_
          refine o_gy rfl ?_
          refine o_bin (op := .eql) rfl rfl (eqE0 _) ?_
          repeat (first | refine o_gy rfl ?_ | refine o_build rfl rfl ?_)
          refine o_call rfl rfl h45 (fun h => Bool.noConfusion (show false = true from h)) ?_
          repeat (first | refine z_region rfl ?_ | refine o_nil ?_ | refine u_seq ?_ | refine z_skip ?_ | refine z_cf rfl ?_ | refine o_gy rfl ?_ | refine o_mov rfl ?_ | refine o_pickf rfl rfl ?_ | refine o_un rfl rfl ?_)
          refine o_bin (op := .shl) rfl rfl (shl1 (show i < 4 by omega)) ?_
          refine o_bin (op := .xor) rfl rfl hxo ?_
          repeat (first | refine z_region rfl ?_ | refine o_nil ?_ | refine u_seq ?_ | refine u_blk ?_ | refine o_mov rfl ?_ | refine o_bin (op := .add) rfl rfl rfl ?_)
          rw [wrap_succ j (by omega)]
          exact u_round (show (D.getD k 0).toNat - (j + 1) < (D.getD k 0).toNat - j by omega) (sub_ren0 (l' := [(1, .int .i64 (m : Nat)), (2, .vptr [.vs (cXs l)]), (5, vsI D), (7, vsI (progT l m D (2 ^ m))), (9, vsL (lostT l m D (2 ^ m))), (64, .int .i64 (2 ^ m : Nat)), (65, .int .i64 (k : Nat)), (11, .int .i64 (k : Nat)), (16, .int .i64 (nxt m x i : Nat)), (104, .int .i64 ((D.getD k 0).toNat : Nat)), (105, .int .i64 ((j + 1 : Nat) : Int))]) (.cons rfl (.same rfl) (.cons rfl (.same rfl) (.cons rfl (.same rfl) (.cons rfl (.same rfl) (.cons rfl (.same rfl) (.cons rfl (.same rfl) (.cons rfl (.same rfl) (.cons rfl (.same rfl) (.cons rfl (.same rfl) (.cons rfl (.same rfl) (.cons rfl (.same rfl) .nil)))))))))))) ⟨j + 1, nxt m x i, rfl, hjl, nxt_lt h1 h4, by omega, rfl⟩
        · have hj2 : j = (D.getD k 0).toNat := by have := of_decide_eq_false h5; omega
          subst hj2
          have hx0 : x = 0 := hD.zer x hx (by omega)
          subst hx0
          have hpe : progE l m D 0 = -1 := by unfold progE; rw [if_neg (by omega), if_pos (by omega)]
          have gp0 := vsI_getD (D := progT l m D (2 ^ m)) (k := 0) (by rw [progT_len]; exact hx)
          rw [progT_get hx, hpe] at gp0
          have gp0 : ((progT l m D (2 ^ m)).map fun z => ([.int .i64 z] : List AV))[(0 : Int).toNat]? = some [.int .i64 (-1)] := gp0
          repeat (first | refine z_seq ?_ | refine o_nil ?_ | refine u_seq ?_ | refine z_cf rfl ?_ | refine z_exit ?_ | refine u_exit_seq ?_)
          refine u_out ?_
          repeat (first | refine z_seq ?_ | refine u_seq ?_ | refine u_exit ?_ | refine o_gy rfl ?_ | refine o_mov rfl ?_ | refine o_load rfl rfl ?_ | refine z_drawn0 env0_ok rfl rfl rfl ?_ | refine o_cmpf rfl rfl rfl ?_ | refine o_idxs rfl rfl (by omega) (by assumption) rfl ?_)
          refine o_bin (op := .shl) rfl rfl (shl4 h4) ?_
          refine o_gy rfl ?_
          refine o_cmpf rfl rfl (by show some (AV.bool (decide (D.getD k 0 ≥ ((2 ^ m : Nat) : Int)))) = _; rw [decide_eq_false (by omega)]) ?_
          repeat (first | refine z_region rfl ?_ | refine o_nil ?_ | refine u_seq ?_ | refine u_blk ?_ | refine z_skip ?_ | refine z_cf rfl ?_ | refine o_gy rfl ?_ | refine o_mov rfl ?_ | refine o_load rfl rfl ?_ | refine o_pickf rfl rfl ?_ | refine o_bin (op := .add) rfl rfl rfl ?_ | refine o_cmpf rfl rfl rfl ?_ | refine o_idxs rfl rfl (by omega) (by assumption) rfl ?_)
          rw [wrap_succ k (by omega)]
          exact u_round (show 2 ^ m - (k + 1) < 2 ^ m - k by omega) (sub_ren0 (l' := [(1, .int .i64 (m : Nat)), (2, .vptr [.vs (cXs l)]), (5, vsI D), (7, vsI (progT l m D (2 ^ m))), (9, vsL (lostT l m D (2 ^ m))), (64, .int .i64 (2 ^ m : Nat)), (65, .int .i64 ((k + 1 : Nat) : Int))]) (.cons rfl (.same rfl) (.cons rfl (.same rfl) (.cons rfl (.same rfl) (.cons rfl (.same rfl) (.cons rfl (.same rfl) (.cons rfl (.same rfl) (.cons rfl (.same rfl) .nil)))))))) ⟨k + 1, rfl, hlt, rfl⟩
    · repeat (first | refine z_seq ?_ | refine o_nil ?_ | refine u_seq ?_ | refine z_cf rfl ?_ | refine z_exit ?_ | refine u_exit_seq ?_)
      refine u_out ?_
      repeat (first | refine z_seq ?_ | refine z_region rfl ?_ | refine u_seq ?_ | refine u_exit ?_)
      refine o_call rfl rfl haw (fun h => Bool.noConfusion (show false = true from h)) ?_
      repeat (first | refine o_nil ?_ | refine u_seq ?_ | refine z_ret ?_ | refine o_mov rfl ?_)
      exact u_end ⟨.inr rfl, _, rfl, rfl⟩

end Go.Proofs.Ytoiblgbaeglgoaa
