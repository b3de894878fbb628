/-
  WHICH EXPRESSIONS ARE TRUE: the reference's True.
-/
import Derived.Test.YtofkihmckookjaaR16
namespace Go.Proofs.Ytofkihmckookjaa
open Go Go.Am

def idxs (f : Ex → Bool) : Nat → List Ex → List Int
  | _, [] => []
  | i, y :: ys => if f y = true then (i : Int) :: idxs f (i + 1) ys else idxs f (i + 1) ys

theorem hasML_ints : ∀ l : List Int, hasM.hasML (l.map (AV.int .i64)) = false
  | [] => rfl
  | b :: l => by
    have := hasML_ints l
    simpa [hasM.hasML, hasM] using this

theorem view_ints {S : AS} {d id sp : Nat} (l : List Int) (hl : Am.look id S.heap = some (sp, .cells (l.map (AV.int .i64)))) : S.view (d + 2) (.ms id sp 1 0 l.length none) = vsI l := by
  have hf : l.map (AV.int .i64) = (l.map fun b => ([.int .i64 b] : List AV)).flatten := by
    clear hl
    induction l with
    | nil => rfl
    | cons b l ih => simp [ih]
  have := view_ms (d := d + 1) (S := S) (id := id) (st := sp) (sz := 1) (xs := l.map fun b => ([.int .i64 b] : List AV)) hl hf (fun x hx => by obtain ⟨b, _, rfl⟩ := List.mem_map.1 hx; rfl)
  rw [List.length_map] at this
  rw [this]
  unfold vsI
  congr 1
  rw [List.map_map]
  exact List.map_congr_left fun _ _ => rfl

def body55 : IC := .seq (.seq (.region [⟨(some 7), .mov (.t 6), none⟩,
    ⟨(some 8), .faddr 0 (.t 2), none⟩,
    ⟨(some 9), .load none (.t 8), none⟩,
    ⟨(some 10), .len false (.t 9), none⟩,
    ⟨(some 11), .bin .lss (.t 7) (.t 10), none⟩] none)
  (.cond (.t 11) (.skip)
  (.exit 0)))
  (.seq (.block 1 (.seq (.region [⟨(some 14), .faddr 0 (.t 2), none⟩,
    ⟨(some 15), .load none (.t 14), none⟩,
    ⟨(some 16), .mov (.t 6), none⟩,
    ⟨(some 17), .idxs 3 (.t 15) (.t 16), none⟩,
    ⟨(some 18), .load (some 3) (.t 17), none⟩,
    ⟨(some 19), .mov (.t 1), none⟩,
    ⟨(some 20), .call (.c (.fn 85 [] [])) [(.t 19)], none⟩,
    ⟨(some 21), .call (.c (.fn 84 [] [])) [(.t 18), (.t 20)], none⟩] (some [[], [0], [], [1, 2], [3], [], [5], [4, 6, 6]]))
  (.cond (.t 21) (.region [⟨(some 22), .mov (.t 5), none⟩,
    ⟨(some 23), .mov (.t 6), none⟩,
    ⟨(some 24), .bslice 1 1 [.int .i64 0] [(0, 1, (.t 23))], none⟩,
    ⟨(some 25), .append 1 8 [.int .i64 0] (.t 22) (.t 24), none⟩,
    ⟨(some 5), .mov (.t 25), none⟩] none)
  (.skip))))
  (.region [⟨(some 12), .mov (.t 6), none⟩,
    ⟨(some 13), .bin .add (.t 12) (.c (.int .i64 1)), none⟩,
    ⟨(some 6), .mov (.t 13), none⟩] none))

-- pneumatic/pneumaticref49.True
def ic55 : IC := .seq (.region [⟨(some 2), .box (.t 0), none⟩,
    ⟨(some 4), .mov (.c (.nils)), none⟩] none)
  (.seq (.region [⟨(some 5), .mov (.c (.nils)), none⟩] none)
  (.seq (.seq (.region [⟨(some 6), .mov (.c (.int .i64 0)), none⟩] none)
  (.block 0 (.loop body55)))
  (.seq (.region [⟨(some 26), .mov (.t 5), none⟩,
    ⟨(some 4), .mov (.t 26), none⟩] none)
  (.ret))))
theorem fn55 : env0.fn 55 = some ⟨27, ic55, [.t 4]⟩ := by kernel_rfl


set_option maxHeartbeats 4000000 in
theorem true55 (l : List Ex) (hl : l.length ≤ 600) (e : List Int) (he0 : 0 < e.length) (he : e.length ≤ 600) (hnd : ∀ y ∈ l, nds (sw e).length y = 0) : PF Try.prog 55 [.agg [.vs (cXs l)], vsI e] (vsI (idxs (holdB (sw e)) 0 l)) := by
  have hcl : (cXs l).length = l.length := cXs_length l
  refine PF_of_Z env0_ok fn55 [(0, .agg [.vs (cXs l)]), (1, vsI e)] (by show 2 ≤ 27; decide) rfl fun w0 N0 => ?_
  unfold ic55
  repeat (first | refine z_seq ?_ | refine z_region rfl ?_ | refine o_nil ?_ | refine u_seq ?_ | refine z_block ?_ | refine o_mov rfl ?_ | refine o_box rfl rfl ?_)
  refine z_loop (fun mm S => ∃ i out, mm = l.length - i ∧ i ≤ l.length ∧ out ++ idxs (holdB (sw e)) i (l.drop i) = idxs (holdB (sw e)) 0 l ∧ out.length ≤ i ∧
      ((out = [] ∧ S = st 27 [(1, vsI e), (2, .mptr 0 0 0), (5, .nils), (6, .int .i64 (i : Nat))] [(0, 0, .cells [.vs (cXs l)])] 1 1) ∨
       ∃ k cs, 0 < k ∧ k = cs.length ∧ cs = out.map (AV.int .i64) ∧ S = st 27 [(1, vsI e), (2, .mptr 0 0 0), (5, .ms 1 0 1 0 k none), (6, .int .i64 (i : Nat))] [(0, 0, .cells [.vs (cXs l)]), (1, 0, .cells cs)] 2 1)) l.length
    (sub_ren [(0, _, [.vs _])] rfl rfl (by simp) (.cons rfl rfl (ren_keep rfl) .nil) (.cons rfl (.same rfl) (.cons rfl (.mptr rfl) (.cons rfl (.same rfl) (.cons rfl (.same rfl) .nil))))) ⟨0, [], rfl, Nat.zero_le _, rfl, Nat.le_refl _, .inl ⟨rfl, rfl⟩⟩ ?_
  rintro mm S ⟨i, out, rfl, hi, hall, hol, ⟨rfl, rfl⟩ | ⟨k, cs, hk0, hk, hcs, rfl⟩⟩
  · unfold body55
    repeat (first | refine z_seq ?_ | refine z_region rfl ?_ | refine o_mov rfl ?_ | refine o_load rfl rfl ?_ | refine o_faddrm rfl ?_ | refine o_len rfl rfl ?_)
    refine o_cmp rfl rfl rfl (fun h3 => ?_) fun h3 => ?_
    · have hlt : i < l.length := by
        have := of_decide_eq_true h3
        rw [cXs_length] at this
        omega
      have hdr : l.drop i = l[i] :: l.drop (i + 1) := List.drop_eq_getElem_cons hlt
      rw [hdr] at hall
      have hge := cXs_get hlt
      have hmem : l[i] ∈ l := List.getElem_mem hlt
      generalize l[i] = y at hall hge hmem
      have h84 := holds84 (sw e) _ y (Nat.le_refl _) (hnd y hmem)
      obtain ⟨yo, yi, ya⟩ := y
      repeat (first | refine z_seq ?_ | refine o_nil ?_ | refine u_seq ?_ | refine z_block ?_ | refine z_skip ?_ | refine z_ct rfl ?_)
      refine z_drawn env0_ok [(85, [vsI e], vsB (sw e)), (84, [.agg (cX (.nd yo yi ya)), vsB (sw e)], .bool (holdB (sw e) (.nd yo yi ya)))] (fun x hx => by rcases List.mem_cons.1 hx with rfl | hx; exact switches85 e he0 he; obtain rfl := List.mem_singleton.1 hx; exact h84) (fun f => Nat.beq f 85 || Nat.beq f 84) rfl rfl rfl ?_
      repeat (first | refine o_mov rfl ?_ | refine o_load rfl rfl ?_ | refine o_faddrm rfl ?_)
      refine o_idxs rfl rfl (Int.natCast_nonneg i) hge rfl ?_
      repeat (first | refine o_mov rfl ?_ | refine o_loadn rfl rfl rfl rfl ?_)
      refine o_call rfl rfl lookL_here (fun h => Bool.noConfusion (show false = true from h)) ?_
      refine o_call rfl rfl (lookL_next (by decide) lookL_here) (fun h => Bool.noConfusion (show false = true from h)) ?_
      clear h84
      cases hf : holdB (sw e) (.nd yo yi ya) with
      | true =>
        repeat (first | refine z_region rfl ?_ | refine o_nil ?_ | refine u_seq ?_ | refine u_blk ?_ | refine z_ct rfl ?_ | refine o_mov rfl ?_ | refine o_bslice rfl rfl ?_ | refine o_append rfl rfl rfl rfl ?_ | refine o_bin (op := .add) rfl rfl rfl ?_)
        exact u_round (show l.length - (i + 1) < l.length - i by omega) (sub_ren [(0, _, [.vs _]), (2, _, [.int .i64 (i : Nat)])] rfl rfl (by simp) (.cons rfl rfl (ren_keep rfl) (.cons rfl rfl (ren_keep rfl) .nil)) (.cons rfl (.same rfl) (.cons rfl (.mptr rfl) (.cons rfl (.ms rfl) (.cons rfl (ren_eq (congrArg (AV.int .i64) (wrap_succ i (by omega))) rfl) .nil))))) ⟨i + 1, [(i : Int)], rfl, hlt, by rw [← hall]; simp [idxs, hf], by show 1 ≤ _; omega, .inr ⟨1, _, Nat.one_pos, rfl, rfl, rfl⟩⟩
      | false =>
        repeat (first | refine z_region rfl ?_ | refine o_nil ?_ | refine u_seq ?_ | refine u_blk ?_ | refine z_skip ?_ | refine z_cf rfl ?_ | refine o_mov rfl ?_ | refine o_bin (op := .add) rfl rfl rfl ?_)
        exact u_round (show l.length - (i + 1) < l.length - i by omega) (sub_ren [(0, _, [.vs _])] rfl rfl (by simp) (.cons rfl rfl (ren_keep rfl) .nil) (.cons rfl (.same rfl) (.cons rfl (.mptr rfl) (.cons rfl (.same rfl) (.cons rfl (ren_eq (congrArg (AV.int .i64) (wrap_succ i (by omega))) rfl) .nil))))) ⟨i + 1, [], rfl, hlt, by rw [← hall]; simp [idxs, hf], Nat.zero_le _, .inl ⟨rfl, rfl⟩⟩
    · have hi2 : i = l.length := by
        have := of_decide_eq_false h3
        rw [cXs_length] at this
        omega
      rw [hi2, List.drop_length, idxs, List.append_nil] at hall
      repeat (first | refine o_nil ?_ | refine u_seq ?_ | refine z_cf rfl ?_ | refine z_exit ?_ | refine u_exit_seq ?_)
      refine u_out ?_
      repeat (first | refine z_seq ?_ | refine z_region rfl ?_ | refine o_nil ?_ | refine u_seq ?_ | refine z_ret ?_ | refine u_exit ?_ | refine o_mov rfl ?_)
      refine u_end ⟨.inr rfl, _, rfl, ?_⟩
      rw [← hall]
      rfl
  · unfold body55
    have hlk : cs.length ≤ 600 := by rw [hcs, List.length_map]; omega
    have hM : hasM.hasML cs = false := by rw [hcs]; exact hasML_ints _
    have hne : out ≠ [] ∨ out = [] := by cases out with | nil => exact .inr rfl | cons a t => exact .inl (fun h => by cases h)
    repeat (first | refine z_seq ?_ | refine z_region rfl ?_ | refine o_mov rfl ?_ | refine o_load rfl rfl ?_ | refine o_faddrm rfl ?_ | refine o_len rfl rfl ?_)
    refine o_cmp rfl rfl rfl (fun h3 => ?_) fun h3 => ?_
    · have hlt : i < l.length := by
        have := of_decide_eq_true h3
        rw [cXs_length] at this
        omega
      have hdr : l.drop i = l[i] :: l.drop (i + 1) := List.drop_eq_getElem_cons hlt
      rw [hdr] at hall
      have hge := cXs_get hlt
      have hmem : l[i] ∈ l := List.getElem_mem hlt
      generalize l[i] = y at hall hge hmem
      have h84 := holds84 (sw e) _ y (Nat.le_refl _) (hnd y hmem)
      obtain ⟨yo, yi, ya⟩ := y
      repeat (first | refine z_seq ?_ | refine o_nil ?_ | refine u_seq ?_ | refine z_block ?_ | refine z_skip ?_ | refine z_ct rfl ?_)
      refine z_drawn env0_ok [(85, [vsI e], vsB (sw e)), (84, [.agg (cX (.nd yo yi ya)), vsB (sw e)], .bool (holdB (sw e) (.nd yo yi ya)))] (fun x hx => by rcases List.mem_cons.1 hx with rfl | hx; exact switches85 e he0 he; obtain rfl := List.mem_singleton.1 hx; exact h84) (fun f => Nat.beq f 85 || Nat.beq f 84) rfl rfl rfl ?_
      repeat (first | refine o_mov rfl ?_ | refine o_load rfl rfl ?_ | refine o_faddrm rfl ?_)
      refine o_idxs rfl rfl (Int.natCast_nonneg i) hge rfl ?_
      repeat (first | refine o_mov rfl ?_ | refine o_loadn rfl rfl rfl rfl ?_)
      refine o_call rfl rfl lookL_here (fun h => Bool.noConfusion (show false = true from h)) ?_
      refine o_call rfl rfl (lookL_next (by decide) lookL_here) (fun h => Bool.noConfusion (show false = true from h)) ?_
      clear h84
      cases hf : holdB (sw e) (.nd yo yi ya) with
      | true =>
        repeat (first | refine z_region rfl ?_ | refine o_nil ?_ | refine u_seq ?_ | refine z_ct rfl ?_ | refine o_mov rfl ?_ | refine o_bslice rfl rfl ?_)
        refine o_append_ms [[.int .i64 (i : Nat)]] rfl rfl rfl (fun h => Nat.noConfusion h) rfl (by decide) rfl (by rw [hk]; omega) (by rw [hk]; show cs.length + 1 ≤ _; omega) ?_
        repeat (first | refine z_region rfl ?_ | refine o_nil ?_ | refine u_seq ?_ | refine u_blk ?_ | refine o_mov rfl ?_ | refine o_bin (op := .add) rfl rfl rfl ?_)
        exact u_round (show l.length - (i + 1) < l.length - i by omega) (sub_ren [(0, _, [.vs _]), (1, _, cs ++ [.int .i64 (i : Nat)])] rfl rfl (by simp) (.cons rfl rfl (ren_keep rfl) (.cons rfl rfl (ren_keep (hasML_append hM rfl)) .nil)) (.cons rfl (.same rfl) (.cons rfl (.mptr rfl) (.cons rfl (.ms rfl) (.cons rfl (ren_eq (congrArg (AV.int .i64) (wrap_succ i (by omega))) rfl) .nil))))) ⟨i + 1, out ++ [(i : Int)], rfl, hlt, by rw [← hall]; simp [idxs, hf], by rw [List.length_append]; show out.length + 1 ≤ _; omega, .inr ⟨k + 1, _, Nat.succ_pos _, by rw [List.length_append, hk]; rfl, by rw [List.map_append, hcs]; rfl, rfl⟩⟩
      | false =>
        repeat (first | refine z_region rfl ?_ | refine o_nil ?_ | refine u_seq ?_ | refine u_blk ?_ | refine z_skip ?_ | refine z_cf rfl ?_ | refine o_mov rfl ?_ | refine o_bin (op := .add) rfl rfl rfl ?_)
        exact u_round (show l.length - (i + 1) < l.length - i by omega) (sub_ren [(0, _, [.vs _]), (1, _, cs)] rfl rfl (by simp) (.cons rfl rfl (ren_keep rfl) (.cons rfl rfl (ren_keep hM) .nil)) (.cons rfl (.same rfl) (.cons rfl (.mptr rfl) (.cons rfl (.ms rfl) (.cons rfl (ren_eq (congrArg (AV.int .i64) (wrap_succ i (by omega))) rfl) .nil))))) ⟨i + 1, out, rfl, hlt, by rw [← hall]; simp [idxs, hf], by omega, .inr ⟨k, cs, hk0, hk, hcs, rfl⟩⟩
    · have hi2 : i = l.length := by
        have := of_decide_eq_false h3
        rw [cXs_length] at this
        omega
      rw [hi2, List.drop_length, idxs, List.append_nil] at hall
      repeat (first | refine o_nil ?_ | refine u_seq ?_ | refine z_cf rfl ?_ | refine z_exit ?_ | refine u_exit_seq ?_)
      refine u_out ?_
      repeat (first | refine z_seq ?_ | refine z_region rfl ?_ | refine o_nil ?_ | refine u_seq ?_ | refine z_ret ?_ | refine u_exit ?_ | refine o_mov rfl ?_)
      refine u_end ⟨.inr rfl, _, rfl, ?_⟩
      rw [← hall]
      subst hcs
      rw [List.length_map] at hk
      subst hk
      exact view_ints out rfl

end Go.Proofs.Ytofkihmckookjaa
