/-
  THE POSITIONS THAT ARE LOST: homing.Lost.
-/
import Derived.Test.YtoiblgbaeglgoaaVH28
namespace Go.Proofs.Ytoiblgbaeglgoaa
open Go Go.Am

theorem look_dropAllH : ∀ (ms : List (Nat × Nat)) (hp : List (Nat × Nat × AObj)) (k : Nat), (∀ z ∈ ms, z.1 ≠ k) → Am.look k (dropAll ms hp) = Am.look k hp
  | [], _, _, _ => rfl
  | z :: ms, hp, k, h => by
    rw [dropAll_cons, look_dropAllH ms _ k fun y hy => h y (List.mem_cons_of_mem _ hy), look_dropl, if_neg (h z (List.mem_cons_self ..))]

set_option maxHeartbeats 8000000 in
theorem lost50 (l : List Ex) (hsl : ∀ y ∈ l, Slim y) (n : Int) (h4 : guardC l n = 0 → n ≤ 4) : PF Try.prog 50 [.agg [.vs (cXs l)], .int .i64 n] (lostV l n) := by
  have p1 := levels42 l hsl n h4
  refine PF_of_Z env0_ok fn50 [(0, .agg [.vs (cXs l)]), (1, .int .i64 n)] (by show 2 ≤ 57; decide) rfl fun w0 N0 => ?_
  unfold ic50 lostV
  repeat (first | refine z_seq ?_ | refine z_region rfl ?_ | refine o_nil ?_ | refine u_seq ?_ | refine o_mov rfl ?_ | refine o_loadn rfl rfl rfl rfl ?_ | refine o_box rfl rfl ?_)
  by_cases hg : guardC l n = 0
  · rw [levV, if_pos hg] at p1
    rw [if_pos hg]
    obtain ⟨g1, g2, g3, g4⟩ := guardC_ok hg
    have h4 := h4 hg
    obtain ⟨m, rfl⟩ : ∃ m : Nat, n = (m : Int) := ⟨n.toNat, by omega⟩
    rw [Int.toNat_natCast] at p1 ⊢
    have h1 : 1 ≤ m := by omega
    have h4 : m ≤ 4 := by omega
    have hD := lev_any (l := l) h1 h4
    have hp4 := pow4 h4
    generalize levL l m = D at *
    have hDl : (D.map fun z => ([.int .i64 z] : List AV)).length = 2 ^ m := by rw [List.length_map, hD.len]
    refine o_call rfl rfl p1 (fun h => Bool.noConfusion (show false = true from h)) ?_
    repeat (first | refine z_seq ?_ | refine z_region rfl ?_ | refine o_nil ?_ | refine u_seq ?_ | refine z_block ?_ | refine z_skip ?_ | refine z_cf rfl ?_ | refine o_mov rfl ?_ | refine o_len rfl rfl ?_ | refine o_extract rfl rfl ?_ | refine o_cmpf rfl rfl rfl ?_)
    rw [hDl]
    refine z_loop (fun mm S => ∃ k q, mm = 2 ^ m - k ∧ k ≤ 2 ^ m ∧ S = st 57 [(1, .int .i64 (m : Nat)), (2, .vptr [.vs (cXs l)]), (6, vsI D), (8, .ms 0 0 1 0 ((lostT l m D k).length) none), (23, vsI D), (24, .int .i64 (2 ^ m : Nat)), (25, .int .i64 (k : Nat))] ((0, 0, .cells (rowB (lostT l m D k))) :: defsW 1 q) (q + 1) 1 (mksW 1 q)) (2 ^ m)
      (sub_renw [(none, [])] [(0, 0, [.vs (cXs l)])] rfl rfl rfl (.cons rfl rfl .nil) (.new .nil) (l' := [(1, .int .i64 (m : Nat)), (2, .vptr [.vs (cXs l)]), (6, vsI D), (8, .ms 0 0 1 0 (0) none), (23, vsI D), (24, .int .i64 (2 ^ m : Nat)), (25, .int .i64 ((0 : Nat) : Int))]) (.cons rfl (.same rfl) (.cons rfl (.fptr rfl rfl) (.cons rfl (.same rfl) (.cons rfl (.grow rfl) (.cons rfl (.same rfl) (.cons rfl (.same rfl) (.cons rfl (.same rfl) .nil)))))))) ⟨0, 0, rfl, Nat.zero_le _, rfl⟩ ?_
    rintro mm S ⟨k, q, rfl, hk, rfl⟩
    unfold b50_0
    repeat (first | refine z_seq ?_ | refine z_region rfl ?_)
    refine o_cmp rfl rfl rfl (fun h3 => ?_) fun h3 => ?_
    · have hlt : k < 2 ^ m := Int.ofNat_lt.1 (of_decide_eq_true h3)
      have gk := vsI_getD (D := D) (k := k) (by rw [hD.len]; exact hlt)
      have hbl := bitsE_len m k
      have hib := idx_bits h1 h4 hlt
      have h95 := pos95 (e := bitsE m k) (by rw [hbl]; exact h1) (by rw [hbl]; exact h4)
      rw [hbl, hib] at h95
      have h94 := allowed94 l hsl (posE (bitsE m k)) (posC_pos (by rw [hbl]; exact hg))
      have h106 := bits106 (m : Int) (k : Int)
      have hkl := lostT_len l m D k
      have hmk0 : marksOk (mksW 1 q) ((0, 0, .cells (rowB (lostT l m D k))) :: defsW 1 q) := fun z hz => by
        obtain ⟨z1, z2, z3⟩ := mksW_mem hz
        rw [look_cons, if_neg (by omega), look_defsW, if_pos ⟨z1, z2⟩, z3]
      repeat (first | refine z_seq ?_ | refine z_region rfl ?_ | refine o_nil ?_ | refine u_seq ?_ | refine z_block ?_ | refine z_skip ?_ | refine z_ct rfl ?_ | refine o_mov rfl ?_ | refine o_load rfl rfl ?_ | refine o_idxs rfl rfl (by omega) (by assumption) rfl ?_)
      refine z_drawn env0_ok [(95, [.int .i64 (m : Nat), .int .i64 (k : Nat)], vsI (posE (bitsE m k))), (94, [.agg [.vs (cXs l)], vsI (posE (bitsE m k))], .bool (freeB l (posE (bitsE m k))))] (fun x hx => by
        rcases List.mem_cons.1 hx with rfl | hx
        · exact h95
        obtain rfl := List.mem_singleton.1 hx
        exact h94) (fun f => Nat.beq f 95 || Nat.beq f 94) rfl rfl rfl ?_
      repeat (first | refine o_mov rfl ?_)
      by_cases hneg : D.getD k 0 < 0
      · refine o_cmpf rfl rfl (by show some (AV.bool (decide (D.getD k 0 ≥ 0))) = _; rw [decide_eq_false (by omega)]) ?_
        repeat (first | refine o_gy rfl ?_ | refine o_mov rfl ?_ | refine o_loadn rfl rfl rfl rfl ?_)
        refine o_call rfl rfl lookL_here (fun h => Bool.noConfusion (show false = true from h)) ?_ hmk0
        refine o_gy rfl ?_
        refine o_call rfl rfl (lookL_next (by decide) lookL_here) (fun h => Bool.noConfusion (show false = true from h)) ?_ hmk0
        cases hf : freeB l (posE (bitsE m k)) with
        | true =>
          have hlb : lostB l m D k = true := by unfold lostB; rw [decide_eq_true hneg, hf]; rfl
          have hlo : lostT l m D (k + 1) = lostT l m D k ++ [bitsE m k] := by rw [lostT_succ, hlb]; rfl
          repeat (first | refine z_seq ?_ | refine z_region rfl ?_ | refine o_nil ?_ | refine u_seq ?_ | refine z_skip ?_ | refine z_cf rfl ?_ | refine o_gy rfl ?_ | refine o_mov rfl ?_ | refine o_pickf rfl rfl ?_ | refine o_un rfl rfl ?_)
          refine o_mks rfl rfl (by omega) ?_
          rw [Int.toNat_natCast, repl_bool]
          repeat (first | refine o_alloc ?_)
          refine o_store rfl rfl rfl rfl look_top rfl rfl ?_
          rw [putl_top]
          repeat (first | refine z_seq ?_ | refine z_region rfl ?_ | refine o_nil ?_ | refine u_seq ?_ | refine o_mov rfl ?_)
          have hmk1 : marksOk (mksW 1 q) ((q + 1 + 1, 2, .cells [.ms (q + 1) 1 1 0 m (some m)]) :: (q + 1, 1, .cells ((List.replicate m false).map AV.bool)) :: (0, 0, .cells (rowB (lostT l m D k))) :: defsW 1 q) := fun z hz => by
            obtain ⟨z1, z2, z3⟩ := mksW_mem hz
            rw [look_cons, if_neg (by omega), look_cons, if_neg (by omega), look_cons, if_neg (by omega), look_defsW, if_pos ⟨z1, z2⟩, z3]
          refine o_call rfl rfl h106 (fun h => Bool.noConfusion (show false = true from h)) ?_ hmk1
          refine o_nil (u_seq (z_block ?_))
          generalize hout : lostT l m D k = out at *
          refine zq (mksW_length q 1) [(some (0, 0), rowB out), (some (q + 1 + 1, 2), [.ms 2 0 1 0 m (some m)]), (some (q + 1, 1), (List.replicate m false).map AV.bool)] [] (l50 l m k D out.length) (by simp [okW, memN, beq_neH (show 0 ≠ q + 1 + 1 by omega), beq_neH (show 0 ≠ q + 1 by omega), beq_neH (show q + 1 + 1 ≠ q + 1 by omega)]) .nil (.cons (by (repeat (first | rw [look_cons, if_pos rfl] | rw [look_cons, if_neg (by omega)])); try rfl) (.keep (rowB_hasM _)) (.cons (by (repeat (first | rw [look_cons, if_pos rfl] | rw [look_cons, if_neg (by omega)])); try rfl) (.cons (.ms rfl) .nil) (.cons (by (repeat (first | rw [look_cons, if_pos rfl] | rw [look_cons, if_neg (by omega)])); try rfl) (.keep (hasML_bools _)) .nil))) (.cons rfl (.same rfl) (.cons rfl (.same rfl) (.cons rfl (.same rfl) (.cons rfl (.same rfl) (.cons rfl (.ms rfl) (.cons rfl (.same rfl) (.cons rfl (.same rfl) (.cons rfl (.same rfl) (.cons rfl (.same rfl) (.cons rfl (.mptr rfl) .nil)))))))))) ?_
          have h144 : ∀ (hA : Com Try.prog ca50_0 asg50_0) (hB : Com Try.prog cb50_0 rb50_0) (H : HS), I50 (q + 3) (rowB out) (bitsE m k) (l50 l m k D out.length) 0 H → FT Try.prog w0 N0 144 [.yield (q + 3 + 1) 2, .vptr [.int .i64 (m : Nat)], .vptr [.int .i64 (k : Nat)]] H fun _ H' => Keep (fun j => j < 3 ∨ j = q + 3 ∨ j = q + 3 + 1) H H' ∧ I50 (q + 3) (rowB out) (bitsE m k) (l50 l m k D out.length) m H' := by
            intro hA hB H hI
            have h := range144 (w0 := w0) (N0 := N0) (id := q + 3 + 1) (sp := 2) (M := fun j => j < 3 ∨ j = q + 3 ∨ j = q + 3 + 1) (I := I50 (q + 3) (rowB out) (bitsE m k) (l50 l m k D out.length)) (e := bitsE m k) (by rw [hbl]; exact h1) (by rw [hbl]; exact h4) (fun i H hi h => yield50 (by omega) hA hB i H hi h) H hI
            rw [hbl, hib] at h
            exact h
          have hw0 : w50 (bitsE m k) 0 = List.replicate m false := by unfold w50; rw [List.take_zero, hbl]; rfl
          have hwm : w50 (bitsE m k) m = bitsE m k := by have := w50_end (bitsE m k); rwa [hbl] at this
          refine z_range (.inl rfl) rfl fun hA hB => (h144 hA hB ⟨_, _, _⟩ ?_).mono fun v H2 hF => ?_
          · refine ⟨Nat.le_refl _, ?_, ?_, ?_, ?_, ?_⟩
            · exact look_top
            · exact (look_new (Nat.lt_succ_self _)).trans look_top
            · show Am.look 0 ((q + 3 + 1, _) :: (q + 3, _) :: (0, _) :: _) = _
              exact (by (repeat (first | rw [look_cons, if_pos rfl] | rw [look_cons, if_neg (by omega)])); try rfl)
            · show Am.look 1 ((q + 3 + 1, _) :: (q + 3, _) :: (0, _) :: (1, _) :: _) = _
              rw [hbl]
              exact (by (repeat (first | rw [look_cons, if_pos rfl] | rw [look_cons, if_neg (by omega)])); try rfl)
            · show Am.look 2 ((q + 3 + 1, _) :: (q + 3, _) :: (0, _) :: (1, _) :: (2, _) :: _) = _
              rw [hw0]
              exact (by (repeat (first | rw [look_cons, if_pos rfl] | rw [look_cons, if_neg (by omega)])); try rfl)
          obtain ⟨hK, nx, e4, e3, e0, e1, e2⟩ := hF
          rw [hbl] at e1
          rw [hwm] at e2
          have hold : ∀ z ∈ mksW 3 q, Am.look z.1 H2.heap = some (z.2, .deferred) := fun z hz => by
            obtain ⟨z1, z2, z3⟩ := mksW_mem hz
            refine (hK.look z.1 (fun h => by rcases h with h | h | h <;> omega) (by show z.1 < q + 3 + 2; omega)).trans ?_
            show Am.look z.1 ((q + 3 + 1, _) :: (q + 3, _) :: (0, _) :: (1, _) :: (2, _) :: defsW 3 q) = _
            rw [look_cons, if_neg (by omega), look_cons, if_neg (by omega), look_cons, if_neg (by omega), look_cons, if_neg (by omega), look_cons, if_neg (by omega), look_defsW, if_pos ⟨z1, z2⟩, z3]
          have hmk2 : marksOk ((q + 3, 1) :: mksW 3 q) (dropl (q + 3 + 1) H2.heap) := fun z hz => by
            rcases List.mem_cons.1 hz with rfl | hz
            · rw [look_dropl, if_neg (by omega)]; exact e3
            · have := mksW_mem hz
              rw [look_dropl, if_neg (by omega)]; exact hold z hz
          refine ⟨_, _, .normal, _, _, _, _, _, _, e4, by simp, rfl, hmk2, ?_⟩
          refine u_blk (u_seq ?_)
          refine zq (q := q + 1) (by rw [List.length_cons, mksW_length]) [(some (0, 0), rowB out), (some (1, 0), [.ms 2 0 1 0 m (some m)]), (some (2, 0), (bitsE m k).map AV.bool)] [] [(1, .int .i64 (m : Nat)), (2, .vptr [.vs (cXs l)]), (6, vsI D), (8, .ms 0 0 1 0 out.length none), (23, vsI D), (24, .int .i64 (2 ^ m : Nat)), (25, .int .i64 (k : Nat)), (11, .mptr 1 0 0)] rfl .nil (.cons (by show Am.look 0 (dropl (q + 3 + 1) H2.heap) = _; rw [look_dropl, if_neg (by omega)]; exact e0) (.keep (rowB_hasM _)) (.cons (by show Am.look 1 (dropl (q + 3 + 1) H2.heap) = _; rw [look_dropl, if_neg (by omega)]; exact e1) (.cons (.ms rfl) .nil) (.cons (by show Am.look 2 (dropl (q + 3 + 1) H2.heap) = _; rw [look_dropl, if_neg (by omega)]; exact e2) (.keep (hasML_bools _)) .nil))) (.cons rfl (.same rfl) (.cons rfl (.same rfl) (.cons rfl (.same rfl) (.cons rfl (.ms rfl) (.cons rfl (.same rfl) (.cons rfl (.same rfl) (.cons rfl (.same rfl) (.cons rfl (.mptr rfl) .nil)))))))) ?_
          repeat (first | refine z_region rfl ?_ | refine o_mov rfl ?_ | refine o_load rfl rfl ?_ | refine o_bslice rfl rfl ?_)
          refine o_append_ms [[.ms 2 0 1 0 m (some m)]] rfl rfl (elems_ms (ys := []) look_top rfl (fun x hx => by obtain rfl := List.mem_singleton.1 hx; rfl)) (fun h => Nat.noConfusion h) rfl (by decide) (by (repeat (first | rw [look_cons, if_pos rfl] | rw [look_cons, if_neg (by omega)])); try rfl) (by unfold rowB; rw [List.length_map, Nat.mul_one]) (by show _ + 1 ≤ _; omega) ?_
          repeat (first | refine z_region rfl ?_ | refine o_nil ?_ | refine u_seq ?_ | refine u_blk ?_ | refine o_mov rfl ?_ | refine o_bin (op := .add) rfl rfl rfl ?_)
          rw [wrap_succ k (by omega)]
          have hrow : rowB (lostT l m D (k + 1)) = rowB out ++ [vsB (bitsE m k)] := by rw [hlo]; unfold rowB; rw [List.map_append]; rfl
          exact u_round (show 2 ^ m - (k + 1) < 2 ^ m - k by omega) (sq (mksW_length (q + 1) 3) [(some (0, 2), rowB out ++ [vsB (bitsE m k)])] [(2, 0, (bitsE m k).map AV.bool)] rfl rfl rfl rfl (.cons (by rw [look_putl, if_neg (by omega)]; exact (by (repeat (first | rw [look_cons, if_pos rfl] | rw [look_cons, if_neg (by omega)])); try rfl)) (hasML_bools _) .nil) (.cons (cs := rowB out ++ [.ms 2 0 1 0 m (some m)]) (by rw [look_putl, if_pos rfl]; rfl) (.snoc (rowB_hasM _) (.fms (cs := (bitsE m k).map AV.bool) (xs := (bitsE m k).map fun b => [.bool b]) rfl (by rw [List.length_map, hbl]) (fun y hy => by obtain ⟨z, _, rfl⟩ := List.mem_map.1 hy; rfl) ⟨[], by rw [List.drop_zero, List.append_nil]; exact flat_bools _⟩)) .nil) (l' := [(1, .int .i64 (m : Nat)), (2, .vptr [.vs (cXs l)]), (6, vsI D), (8, .ms 0 0 1 0 (out.length + 1) none), (23, vsI D), (24, .int .i64 (2 ^ m : Nat)), (25, .int .i64 ((k + 1 : Nat) : Int))]) (.cons rfl (.same rfl) (.cons rfl (.same rfl) (.cons rfl (.same rfl) (.cons rfl (.ms rfl) (.cons rfl (.same rfl) (.cons rfl (.same rfl) (.cons rfl (.same rfl) .nil)))))))) ⟨k + 1, q + 1, rfl, hlt, by rw [hrow, hlo, List.length_append]; rfl⟩
        | false =>
          have hlb : lostB l m D k = false := by unfold lostB; rw [hf, Bool.and_false]
          have hlo : lostT l m D (k + 1) = lostT l m D k := by rw [lostT_succ, hlb]; exact List.append_nil _
          repeat (first | refine z_region rfl ?_ | refine o_nil ?_ | refine u_seq ?_ | refine z_ct rfl ?_ | refine z_exit ?_ | refine u_exit ?_ | refine u_exit_seq ?_ | refine o_gy rfl ?_ | refine o_mov rfl ?_ | refine o_pickf rfl rfl ?_ | refine o_un rfl rfl ?_ | refine o_bin (op := .add) rfl rfl rfl ?_)
          rw [wrap_succ k (by omega)]
          exact u_round (show 2 ^ m - (k + 1) < 2 ^ m - k by omega) (sub_keep (l' := [(1, .int .i64 (m : Nat)), (2, .vptr [.vs (cXs l)]), (6, vsI D), (8, .ms 0 0 1 0 ((lostT l m D k).length) none), (23, vsI D), (24, .int .i64 (2 ^ m : Nat)), (25, .int .i64 (k + 1 : Nat))]) (.cons rfl (.cons rfl (.cons rfl (.cons rfl (.cons rfl (.cons rfl (.cons rfl .nil)))))))) ⟨k + 1, q, rfl, hlt, by rw [hlo]⟩
      · have hlb : lostB l m D k = false := by unfold lostB; rw [decide_eq_false hneg, Bool.false_and]
        have hlo : lostT l m D (k + 1) = lostT l m D k := by rw [lostT_succ, hlb]; exact List.append_nil _
        refine o_cmpt rfl rfl (by show some (AV.bool (decide (D.getD k 0 ≥ 0))) = _; rw [decide_eq_true (by omega)]) ?_
        repeat (first | refine z_region rfl ?_ | refine o_nil ?_ | refine u_seq ?_ | refine z_ct rfl ?_ | refine z_exit ?_ | refine u_exit ?_ | refine u_exit_seq ?_ | refine o_gn rfl rfl ?_ | refine o_mov rfl ?_ | refine o_pickt rfl rfl ?_ | refine o_bin (op := .add) rfl rfl rfl ?_)
        rw [wrap_succ k (by omega)]
        exact u_round (show 2 ^ m - (k + 1) < 2 ^ m - k by omega) (sub_keep (l' := [(1, .int .i64 (m : Nat)), (2, .vptr [.vs (cXs l)]), (6, vsI D), (8, .ms 0 0 1 0 ((lostT l m D k).length) none), (23, vsI D), (24, .int .i64 (2 ^ m : Nat)), (25, .int .i64 (k + 1 : Nat))]) (.cons rfl (.cons rfl (.cons rfl (.cons rfl (.cons rfl (.cons rfl (.cons rfl .nil)))))))) ⟨k + 1, q, rfl, hlt, by rw [hlo]⟩
    · have hk2 : k = 2 ^ m := by
        have : ¬ k < 2 ^ m := fun h => of_decide_eq_false h3 (Int.ofNat_lt.2 h)
        omega
      subst hk2
      repeat (first | refine z_seq ?_ | refine o_nil ?_ | refine u_seq ?_ | refine z_cf rfl ?_ | refine z_exit ?_ | refine u_exit_seq ?_)
      refine u_out ?_
      repeat (first | refine z_seq ?_ | refine z_region rfl ?_ | refine o_nil ?_ | refine u_seq ?_ | refine z_ret ?_ | refine u_exit ?_ | refine o_mov rfl ?_)
      refine u_end ⟨.inr rfl, _, rfl, ?_⟩
      refine congrArg AV.tup (pair_eq (view_rowB (d := 2) (sp := 0) _ ?_) rfl)
      show Am.look 0 (dropAll (mksW 1 q) ((0, _) :: defsW 1 q)) = _
      rw [look_dropAllH _ _ _ fun z hz => by have := (mksW_mem hz).1; omega]
      rfl
  · rw [levV, if_neg hg] at p1
    rw [if_neg hg]
    refine o_call rfl rfl p1 (fun h => Bool.noConfusion (show false = true from h)) ?_
    repeat (first | refine z_seq ?_ | refine z_region rfl ?_ | refine o_nil ?_ | refine u_seq ?_ | refine o_mov rfl ?_ | refine o_extract rfl rfl ?_)
    refine o_cmp rfl rfl rfl (fun h => ?_) fun h => absurd (by simpa using h) hg
    repeat (first | refine z_seq ?_ | refine z_region rfl ?_ | refine o_nil ?_ | refine u_seq ?_ | refine z_ct rfl ?_ | refine z_ret ?_ | refine u_ret_seq ?_ | refine o_mov rfl ?_)
    exact u_end ⟨.inr rfl, _, rfl, rfl⟩

end Go.Proofs.Ytoiblgbaeglgoaa
