/-
  WHICH EXPRESSIONS ARE TRUE: guard.which.
-/
import Derived.Test.YtofkihmckookjaaR17
namespace Go.Proofs.Ytofkihmckookjaa
open Go Go.Am

theorem pair_eq {a b a' b' : AV} (h : a = a') (k : b = b') : [a, b] = [a', b'] := by rw [h, k]

def body53a : IC := .seq (.region [⟨(some 16), .bin .lss (.t 15) (.t 14), none⟩] none)
  (.seq (.cond (.t 16) (.skip)
  (.exit 0))
  (.seq (.block 1 (.seq (.region [⟨(some 17), .idxs 1 (.t 13) (.t 15), none⟩,
    ⟨(some 18), .load none (.t 17), none⟩,
    ⟨(some 7), .mov (.t 18), none⟩] none)
  (.region [⟨(some 19), .mov (.t 5), none⟩,
    ⟨(some 20), .mov (.t 7), none⟩,
    ⟨(some 21), .bin .eql (.t 20) (.c (.int .i64 0)), none⟩,
    ⟨(some 22), .mov (.t 7), none⟩,
    ⟨(some 23), .bin .eql (.t 22) (.c (.int .i64 2)), none⟩,
    ⟨(some 24), .bslice 1 2 [.bool false, .bool false] [(0, 1, (.t 21)), (1, 1, (.t 23))], none⟩,
    ⟨(some 25), .append 1 1 [.bool false] (.t 19) (.t 24), none⟩,
    ⟨(some 5), .mov (.t 25), none⟩] none)))
  (.region [⟨(some 26), .bin .add (.t 15) (.c (.int .i64 1)), none⟩,
    ⟨(some 15), .mov (.t 26), none⟩] none)))

def body53b : IC := .seq (.region [⟨(some 30), .bin .lss (.t 29) (.t 28), none⟩] none)
  (.seq (.cond (.t 30) (.skip)
  (.exit 2))
  (.seq (.block 3 (.seq (.region [⟨(some 31), .mov (.t 29), none⟩,
    ⟨(some 32), .idxs 3 (.t 27) (.t 29), none⟩,
    ⟨(some 33), .load (some 3) (.t 32), none⟩,
    ⟨(some 10), .alloc [.int .i64 0, .int .i64 0, .nils], none⟩,
    ⟨(some 9), .mov (.t 31), none⟩,
    ⟨none, .store 3 (.t 10) (.t 33), none⟩] none)
  (.seq (.region [⟨(some 35), .load (some 3) (.t 10), none⟩,
    ⟨(some 36), .mov (.t 5), none⟩,
    ⟨(some 37), .call (.c (.fn 81 [] [])) [(.t 35), (.t 36)], none⟩,
    ⟨(some 34), .mov (.t 37), none⟩,
    ⟨(some 38), .extract (.t 34) 0, none⟩,
    ⟨(some 39), .extract (.t 34) 1, none⟩,
    ⟨(some 11), .mov (.t 38), none⟩,
    ⟨(some 12), .mov (.t 39), none⟩] none)
  (.seq (.region [⟨(some 40), .mov (.t 12), none⟩,
    ⟨(some 41), .bin .eql (.t 40) (.c (.int .i64 0)), none⟩,
    ⟨(some 42), .mov (.t 41), none⟩,
    ⟨(some 43), .mov (.t 11), some (42, true)⟩,
    ⟨(some 44), .pick (.t 42) (.t 43) (.c (.bool false)), none⟩] none)
  (.cond (.t 44) (.region [⟨(some 45), .mov (.t 8), none⟩,
    ⟨(some 46), .mov (.t 9), none⟩,
    ⟨(some 47), .bslice 1 1 [.int .i64 0] [(0, 1, (.t 46))], none⟩,
    ⟨(some 48), .append 1 8 [.int .i64 0] (.t 45) (.t 47), none⟩,
    ⟨(some 8), .mov (.t 48), none⟩] none)
  (.skip))))))
  (.region [⟨(some 49), .bin .add (.t 29) (.c (.int .i64 1)), none⟩,
    ⟨(some 29), .mov (.t 49), none⟩] none)))

-- pneumatic/guard.which
def ic53 : IC := .seq (.region [⟨(some 4), .mov (.c (.nils)), none⟩] none)
  (.seq (.region [⟨(some 5), .mov (.c (.nils)), none⟩] none)
  (.seq (.seq (.region [⟨(some 13), .mov (.t 1), none⟩,
    ⟨(some 14), .len false (.t 13), none⟩,
    ⟨(some 15), .mov (.c (.int .i64 0)), none⟩] none)
  (.block 0 (.loop body53a)))
  (.seq (.region [⟨(some 8), .mov (.c (.nils)), none⟩] none)
  (.seq (.seq (.region [⟨(some 27), .mov (.t 0), none⟩,
    ⟨(some 28), .len false (.t 27), none⟩,
    ⟨(some 29), .mov (.c (.int .i64 0)), none⟩] none)
  (.block 2 (.loop body53b)))
  (.seq (.region [⟨(some 50), .mov (.t 8), none⟩,
    ⟨(some 4), .mov (.t 50), none⟩] none)
  (.ret))))))
theorem fn53 : env0.fn 53 = some ⟨51, ic53, [.t 4]⟩ := by kernel_rfl


set_option maxHeartbeats 4000000 in
theorem which53 (l : List Ex) (hl : l.length ≤ 600) (e : List Int) (he0 : 0 < e.length) (he : e.length ≤ 600) (hck : ∀ y ∈ l, checkR y (sw e).length = 0) (hsl : ∀ y ∈ l, Slim y) : PF Try.prog 53 [.vs (cXs l), vsI e] (vsI (idxs (holdB (sw e)) 0 l)) := by
  have hcl : (cXs l).length = l.length := cXs_length l
  have hce : (e.map fun z => ([.int .i64 z] : List AV)).length = e.length := List.length_map ..
  refine PF_of_Z env0_ok fn53 [(0, .vs (cXs l)), (1, vsI e)] (by show 2 ≤ 51; decide) rfl fun w0 N0 => ?_
  unfold ic53
  repeat (first | refine z_seq ?_ | refine z_region rfl ?_ | refine o_nil ?_ | refine u_seq ?_ | refine z_block ?_ | refine o_mov rfl ?_ | refine o_len rfl rfl ?_)
  refine z_loop (fun mm S => ∃ i, mm = e.length - i ∧ i ≤ e.length ∧
      ((i = 0 ∧ S = st 51 [(0, .vs (cXs l)), (13, vsI e), (14, .int .i64 (e.map fun z => ([.int .i64 z] : List AV)).length), (5, .nils), (15, .int .i64 (i : Nat))] [] 0 1) ∨
       ∃ k cs, k = cs.length ∧ cs = (sw (e.take i)).map AV.bool ∧ S = st 51 [(0, .vs (cXs l)), (13, vsI e), (14, .int .i64 (e.map fun z => ([.int .i64 z] : List AV)).length), (5, .ms 0 0 1 0 k none), (15, .int .i64 (i : Nat))] [(0, 0, .cells cs)] 1 1)) e.length
    (sub_ren0 (.cons rfl (.same rfl) (.cons rfl (.same rfl) (.cons rfl (.same rfl) (.cons rfl (.same rfl) (.cons rfl (.same rfl) .nil)))))) ⟨0, rfl, Nat.zero_le _, .inl ⟨rfl, rfl⟩⟩ ?_
  rintro mm S ⟨i, rfl, hi, ⟨rfl, rfl⟩ | ⟨k, cs, hk, hcs, rfl⟩⟩
  · unfold body53a
    repeat (first | refine z_seq ?_ | refine z_region rfl ?_)
    refine o_cmp rfl rfl rfl (fun h3 => ?_) fun h3 => ?_
    · have hge := vsI_get e 0 he0
      have ht : e.take (0 + 1) = [e[0]] := by
        cases e with
        | nil => simp at he0
        | cons a t => rfl
      generalize e[0] = z at hge ht
      repeat (first | refine z_seq ?_ | refine z_region rfl ?_ | refine o_nil ?_ | refine u_seq ?_ | refine z_block ?_ | refine z_skip ?_ | refine z_ct rfl ?_)
      refine o_idxs rfl rfl (Int.natCast_nonneg 0) hge rfl ?_
      repeat (first | refine z_region rfl ?_ | refine o_nil ?_ | refine u_seq ?_ | refine o_mov rfl ?_ | refine o_load rfl rfl ?_)
      refine o_bin (op := .eql) rfl rfl rfl ?_
      repeat (first | refine o_mov rfl ?_)
      refine o_bin (op := .eql) rfl rfl rfl ?_
      repeat (first | refine z_region rfl ?_ | refine o_nil ?_ | refine u_seq ?_ | refine u_blk ?_ | refine o_mov rfl ?_ | refine o_bslice rfl rfl ?_ | refine o_append rfl rfl rfl rfl ?_ | refine o_bin (op := .add) rfl rfl rfl ?_)
      exact u_round (show e.length - (0 + 1) < e.length - 0 by omega) (sub_ren [(1, _, [.bool (z == 0), .bool (z == 2)])] rfl rfl (by simp) (.cons rfl rfl (ren_keep rfl) .nil) (.cons rfl (.same rfl) (.cons rfl (.same rfl) (.cons rfl (.same rfl) (.cons rfl (.ms rfl) (.cons rfl (.same rfl) .nil)))))) ⟨0 + 1, rfl, he0, .inr ⟨2, _, rfl, by rw [ht]; rfl, rfl⟩⟩
    · have := of_decide_eq_false h3
      rw [hce] at this
      exact absurd he0 (by omega)
  · unfold body53a
    repeat (first | refine z_seq ?_ | refine z_region rfl ?_)
    refine o_cmp rfl rfl rfl (fun h3 => ?_) fun h3 => ?_
    · have hlt : i < e.length := by
        have := of_decide_eq_true h3
        rw [hce] at this
        omega
      have hge := vsI_get e i hlt
      have ht : e.take (i + 1) = e.take i ++ [e[i]] := by rw [List.take_add_one, List.getElem?_eq_getElem hlt]; rfl
      generalize e[i] = z at hge ht
      have hlk : cs.length ≤ 1200 := by rw [hcs, List.length_map, sw_length, List.length_take]; omega
      have hM : hasM.hasML cs = false := by rw [hcs]; exact hasML_bools _
      repeat (first | refine z_seq ?_ | refine z_region rfl ?_ | refine o_nil ?_ | refine u_seq ?_ | refine z_block ?_ | refine z_skip ?_ | refine z_ct rfl ?_)
      refine o_idxs rfl rfl (Int.natCast_nonneg i) hge rfl ?_
      repeat (first | refine z_region rfl ?_ | refine o_nil ?_ | refine u_seq ?_ | refine o_mov rfl ?_ | refine o_load rfl rfl ?_)
      refine o_bin (op := .eql) rfl rfl rfl ?_
      repeat (first | refine o_mov rfl ?_)
      refine o_bin (op := .eql) rfl rfl rfl ?_
      repeat (first | refine o_bslice rfl rfl ?_)
      refine o_append_ms [[.bool (z == 0)], [.bool (z == 2)]] rfl rfl rfl (fun h => Nat.noConfusion h) rfl (by decide) rfl (by rw [hk]; omega) (by rw [hk]; show cs.length + 2 ≤ _; omega) ?_
      repeat (first | refine z_region rfl ?_ | refine o_nil ?_ | refine u_seq ?_ | refine u_blk ?_ | refine o_mov rfl ?_ | refine o_bin (op := .add) rfl rfl rfl ?_)
      exact u_round (show e.length - (i + 1) < e.length - i by omega) (sub_ren [(0, _, cs ++ [.bool (z == 0), .bool (z == 2)])] rfl rfl (by simp) (.cons rfl rfl (ren_keep (hasML_append hM rfl)) .nil) (.cons rfl (.same rfl) (.cons rfl (.same rfl) (.cons rfl (.same rfl) (.cons rfl (.ms rfl) (.cons rfl (ren_eq (congrArg (AV.int .i64) (wrap_succ i (by omega))) rfl) .nil)))))) ⟨i + 1, rfl, hlt, .inr ⟨k + 2, _, by rw [List.length_append, hk]; rfl, by rw [ht, sw_append, List.map_append, hcs]; rfl, rfl⟩⟩
    · have hi2 : i = e.length := by
        have := of_decide_eq_false h3
        rw [hce] at this
        omega
      repeat (first | refine z_seq ?_ | refine o_nil ?_ | refine u_seq ?_ | refine z_cf rfl ?_ | refine z_exit ?_ | refine u_exit_seq ?_)
      refine u_out ?_
      repeat (first | refine z_seq ?_ | refine z_region rfl ?_ | refine o_nil ?_ | refine u_seq ?_ | refine z_block ?_ | refine u_exit ?_ | refine o_mov rfl ?_ | refine o_len rfl rfl ?_)
      have hfin : cs = (sw e).map AV.bool := by rw [hcs, hi2, List.take_length]
      clear hcs
      subst hfin
      rw [List.length_map] at hk
      subst hk
      refine z_loop (fun mm S => ∃ i out, mm = l.length - i ∧ i ≤ l.length ∧ out ++ idxs (holdB (sw e)) i (l.drop i) = idxs (holdB (sw e)) 0 l ∧ out.length ≤ i ∧
        ((out = [] ∧ S = st 51 [(27, .vs (cXs l)), (28, .int .i64 (cXs l).length), (5, .ms 0 0 1 0 (sw e).length none), (8, .nils), (29, .int .i64 (i : Nat))] [(0, 0, .cells ((sw e).map AV.bool))] 1 1) ∨
         ∃ k cs, k = cs.length ∧ cs = out.map (AV.int .i64) ∧ S = st 51 [(27, .vs (cXs l)), (28, .int .i64 (cXs l).length), (5, .ms 0 0 1 0 (sw e).length none), (8, .ms 1 0 1 0 k none), (29, .int .i64 (i : Nat))] [(0, 0, .cells ((sw e).map AV.bool)), (1, 0, .cells cs)] 2 1)) l.length
        (sub_ren [(0, _, (sw e).map AV.bool)] rfl rfl (by simp) (.cons rfl rfl (ren_keep (hasML_bools _)) .nil) (.cons rfl (.same rfl) (.cons rfl (.same rfl) (.cons rfl (.ms rfl) (.cons rfl (.same rfl) (.cons rfl (.same rfl) .nil)))))) ⟨0, [], rfl, Nat.zero_le _, rfl, Nat.le_refl _, .inl ⟨rfl, rfl⟩⟩ ?_
      clear hi2 h3 hi
      rintro mm S ⟨i, out, rfl, hi, hall, hol, ⟨rfl, rfl⟩ | ⟨k, cs, hk, hcs, rfl⟩⟩
      · unfold body53b
        repeat (first | refine z_seq ?_ | refine z_region rfl ?_)
        refine o_cmp rfl rfl rfl (fun h3 => ?_) fun h3 => ?_
        · have hlt : i < l.length := by
            have := of_decide_eq_true h3
            rw [cXs_length] at this
            omega
          have hdr : l.drop i = l[i] :: l.drop (i + 1) := List.drop_eq_getElem_cons hlt
          rw [hdr] at hall
          have hge := cXs_get hlt
          have hmem : l[i] ∈ l := List.getElem_mem hlt
          generalize l[i] = y at hall hge hmem
          have h81 := eval81 y (hsl y hmem) (sw e)
          unfold evalV at h81
          rw [if_pos (hck y hmem)] at h81
          obtain ⟨yo, yi, ya⟩ := y
          repeat (first | refine z_seq ?_ | refine z_region rfl ?_ | refine o_nil ?_ | refine u_seq ?_ | refine z_block ?_ | refine z_skip ?_ | refine z_ct rfl ?_ | refine o_mov rfl ?_)
          refine o_idxs rfl rfl (Int.natCast_nonneg i) hge rfl ?_
          repeat (first | refine z_seq ?_ | refine z_region rfl ?_ | refine o_nil ?_ | refine u_seq ?_ | refine o_mov rfl ?_ | refine o_loadn rfl rfl rfl rfl ?_ | refine o_store rfl rfl rfl rfl rfl rfl rfl ?_ | refine o_alloc ?_)
          cases hf : holdB (sw e) (.nd yo yi ya) with
          | true =>
            rw [hf] at h81
            refine o_call rfl (pair_eq rfl (view_bools (sw e) rfl)) h81 (fun _ => rfl) ?_
            repeat (first | refine z_seq ?_ | refine z_region rfl ?_ | refine o_nil ?_ | refine u_seq ?_ | refine u_blk ?_ | refine z_ct rfl ?_ | refine o_gy rfl ?_ | refine o_mov rfl ?_ | refine o_pickt rfl rfl ?_ | refine o_bslice rfl rfl ?_ | refine o_append rfl rfl rfl rfl ?_ | refine o_extract rfl rfl ?_ | refine o_bin (op := .add) rfl rfl rfl ?_ | refine o_cmpt rfl rfl rfl ?_)
            exact u_round (show l.length - (i + 1) < l.length - i by omega) (sub_ren [(0, _, (sw e).map AV.bool), (3, _, [.int .i64 (i : Nat)])] rfl rfl (by simp) (.cons rfl rfl (ren_keep (hasML_bools _)) (.cons rfl rfl (ren_keep rfl) .nil)) (.cons rfl (.same rfl) (.cons rfl (.same rfl) (.cons rfl (.ms rfl) (.cons rfl (.ms rfl) (.cons rfl (ren_eq (congrArg (AV.int .i64) (wrap_succ i (by omega))) rfl) .nil)))))) ⟨i + 1, [(i : Int)], rfl, hlt, by rw [← hall]; simp [idxs, hf], by show 1 ≤ _; omega, .inr ⟨1, _, rfl, rfl, rfl⟩⟩
          | false =>
            rw [hf] at h81
            refine o_call rfl (pair_eq rfl (view_bools (sw e) rfl)) h81 (fun _ => rfl) ?_
            repeat (first | refine z_seq ?_ | refine z_region rfl ?_ | refine o_nil ?_ | refine u_seq ?_ | refine u_blk ?_ | refine z_skip ?_ | refine z_cf rfl ?_ | refine o_gy rfl ?_ | refine o_mov rfl ?_ | refine o_pickt rfl rfl ?_ | refine o_extract rfl rfl ?_ | refine o_bin (op := .add) rfl rfl rfl ?_ | refine o_cmpt rfl rfl rfl ?_)
            exact u_round (show l.length - (i + 1) < l.length - i by omega) (sub_ren [(0, _, (sw e).map AV.bool)] rfl rfl (by simp) (.cons rfl rfl (ren_keep (hasML_bools _)) .nil) (.cons rfl (.same rfl) (.cons rfl (.same rfl) (.cons rfl (.ms rfl) (.cons rfl (.same rfl) (.cons rfl (ren_eq (congrArg (AV.int .i64) (wrap_succ i (by omega))) rfl) .nil)))))) ⟨i + 1, [], rfl, hlt, by rw [← hall]; simp [idxs, hf], Nat.zero_le _, .inl ⟨rfl, rfl⟩⟩
        · have hi2 : i = l.length := by
            have := of_decide_eq_false h3
            rw [cXs_length] at this
            omega
          rw [hi2, List.drop_length, idxs, List.append_nil] at hall
          repeat (first | refine z_seq ?_ | refine o_nil ?_ | refine u_seq ?_ | refine z_cf rfl ?_ | refine z_exit ?_ | refine u_exit_seq ?_)
          refine u_out ?_
          repeat (first | refine z_seq ?_ | refine z_region rfl ?_ | refine o_nil ?_ | refine u_seq ?_ | refine z_ret ?_ | refine u_exit ?_ | refine o_mov rfl ?_)
          refine u_end ⟨.inr rfl, _, rfl, ?_⟩
          rw [← hall]
          rfl
      · unfold body53b
        have hlk : cs.length ≤ 600 := by rw [hcs, List.length_map]; omega
        have hM : hasM.hasML cs = false := by rw [hcs]; exact hasML_ints _
        repeat (first | refine z_seq ?_ | refine z_region rfl ?_)
        refine o_cmp rfl rfl rfl (fun h3 => ?_) fun h3 => ?_
        · have hlt : i < l.length := by
            have := of_decide_eq_true h3
            rw [cXs_length] at this
            omega
          have hdr : l.drop i = l[i] :: l.drop (i + 1) := List.drop_eq_getElem_cons hlt
          rw [hdr] at hall
          have hge := cXs_get hlt
          have hmem : l[i] ∈ l := List.getElem_mem hlt
          generalize l[i] = y at hall hge hmem
          have h81 := eval81 y (hsl y hmem) (sw e)
          unfold evalV at h81
          rw [if_pos (hck y hmem)] at h81
          obtain ⟨yo, yi, ya⟩ := y
          repeat (first | refine z_seq ?_ | refine z_region rfl ?_ | refine o_nil ?_ | refine u_seq ?_ | refine z_block ?_ | refine z_skip ?_ | refine z_ct rfl ?_ | refine o_mov rfl ?_)
          refine o_idxs rfl rfl (Int.natCast_nonneg i) hge rfl ?_
          repeat (first | refine z_seq ?_ | refine z_region rfl ?_ | refine o_nil ?_ | refine u_seq ?_ | refine o_mov rfl ?_ | refine o_loadn rfl rfl rfl rfl ?_ | refine o_store rfl rfl rfl rfl rfl rfl rfl ?_ | refine o_alloc ?_)
          cases hf : holdB (sw e) (.nd yo yi ya) with
          | true =>
            rw [hf] at h81
            refine o_call rfl (pair_eq rfl (view_bools (sw e) rfl)) h81 (fun _ => rfl) ?_
            repeat (first | refine z_seq ?_ | refine z_region rfl ?_ | refine o_nil ?_ | refine u_seq ?_ | refine z_ct rfl ?_ | refine o_gy rfl ?_ | refine o_mov rfl ?_ | refine o_pickt rfl rfl ?_ | refine o_bslice rfl rfl ?_ | refine o_extract rfl rfl ?_ | refine o_cmpt rfl rfl rfl ?_)
            refine o_append_ms [[.int .i64 (i : Nat)]] rfl rfl rfl (fun h => Nat.noConfusion h) rfl (by decide) rfl (by rw [hk]; omega) (by rw [hk]; show cs.length + 1 ≤ _; omega) ?_
            repeat (first | refine z_region rfl ?_ | refine o_nil ?_ | refine u_seq ?_ | refine u_blk ?_ | refine o_mov rfl ?_ | refine o_bin (op := .add) rfl rfl rfl ?_)
            exact u_round (show l.length - (i + 1) < l.length - i by omega) (sub_ren [(0, _, (sw e).map AV.bool), (1, _, cs ++ [.int .i64 (i : Nat)])] rfl rfl (by simp) (.cons rfl rfl (ren_keep (hasML_bools _)) (.cons rfl rfl (ren_keep (hasML_append hM rfl)) .nil)) (.cons rfl (.same rfl) (.cons rfl (.same rfl) (.cons rfl (.ms rfl) (.cons rfl (.ms rfl) (.cons rfl (ren_eq (congrArg (AV.int .i64) (wrap_succ i (by omega))) rfl) .nil)))))) ⟨i + 1, out ++ [(i : Int)], rfl, hlt, by rw [← hall]; simp [idxs, hf], by rw [List.length_append]; show out.length + 1 ≤ _; omega, .inr ⟨k + 1, _, by rw [List.length_append, hk]; rfl, by rw [List.map_append, hcs]; rfl, rfl⟩⟩
          | false =>
            rw [hf] at h81
            refine o_call rfl (pair_eq rfl (view_bools (sw e) rfl)) h81 (fun _ => rfl) ?_
            repeat (first | refine z_seq ?_ | refine z_region rfl ?_ | refine o_nil ?_ | refine u_seq ?_ | refine u_blk ?_ | refine z_skip ?_ | refine z_cf rfl ?_ | refine o_gy rfl ?_ | refine o_mov rfl ?_ | refine o_pickt rfl rfl ?_ | refine o_extract rfl rfl ?_ | refine o_bin (op := .add) rfl rfl rfl ?_ | refine o_cmpt rfl rfl rfl ?_)
            exact u_round (show l.length - (i + 1) < l.length - i by omega) (sub_ren [(0, _, (sw e).map AV.bool), (1, _, cs)] rfl rfl (by simp) (.cons rfl rfl (ren_keep (hasML_bools _)) (.cons rfl rfl (ren_keep hM) .nil)) (.cons rfl (.same rfl) (.cons rfl (.same rfl) (.cons rfl (.ms rfl) (.cons rfl (.ms rfl) (.cons rfl (ren_eq (congrArg (AV.int .i64) (wrap_succ i (by omega))) rfl) .nil)))))) ⟨i + 1, out, rfl, hlt, by rw [← hall]; simp [idxs, hf], by omega, .inr ⟨k, cs, hk, hcs, rfl⟩⟩
        · have hi2 : i = l.length := by
            have := of_decide_eq_false h3
            rw [cXs_length] at this
            omega
          rw [hi2, List.drop_length, idxs, List.append_nil] at hall
          repeat (first | refine z_seq ?_ | refine o_nil ?_ | refine u_seq ?_ | refine z_cf rfl ?_ | refine z_exit ?_ | refine u_exit_seq ?_)
          refine u_out ?_
          repeat (first | refine z_seq ?_ | refine z_region rfl ?_ | refine o_nil ?_ | refine u_seq ?_ | refine z_ret ?_ | refine u_exit ?_ | refine o_mov rfl ?_)
          refine u_end ⟨.inr rfl, _, rfl, ?_⟩
          rw [← hall]
          subst hcs
          rw [List.length_map] at hk
          subst hk
          exact view_ints out rfl

end Go.Proofs.Ytofkihmckookjaa
