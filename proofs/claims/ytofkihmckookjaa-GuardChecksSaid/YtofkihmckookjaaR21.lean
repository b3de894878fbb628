/-
  EQUAL LISTS OF NUMBERS.
-/
import Derived.Test.YtofkihmckookjaaR16
namespace Go.Proofs.Ytofkihmckookjaa
open Go Go.Am

def body16 : IC := .seq (.region [⟨(some 14), .bin .lss (.t 13) (.t 12), none⟩] none)
  (.seq (.cond (.t 14) (.skip)
  (.exit 0))
  (.seq (.block 1 (.seq (.region [⟨(some 15), .mov (.t 13), none⟩,
    ⟨(some 5), .mov (.t 15), none⟩] none)
  (.seq (.region [⟨(some 16), .mov (.t 0), none⟩,
    ⟨(some 17), .mov (.t 5), none⟩,
    ⟨(some 18), .idxs 1 (.t 16) (.t 17), none⟩,
    ⟨(some 19), .load none (.t 18), none⟩,
    ⟨(some 20), .mov (.t 1), none⟩,
    ⟨(some 21), .mov (.t 5), none⟩,
    ⟨(some 22), .idxs 1 (.t 20) (.t 21), none⟩,
    ⟨(some 23), .load none (.t 22), none⟩,
    ⟨(some 24), .bin .neq (.t 19) (.t 23), none⟩] (some [[], [], [0, 1], [2], [], [], [4, 5], [6], [3, 7]]))
  (.cond (.t 24) (.seq (.region [⟨(some 4), .mov (.c (.bool false)), none⟩] none)
  (.ret))
  (.skip)))))
  (.region [⟨(some 25), .bin .add (.t 13) (.c (.int .i64 1)), none⟩,
    ⟨(some 13), .mov (.t 25), none⟩] none)))

-- slices.Equal[[]int,int]
def ic16 : IC := .seq (.region [⟨(some 4), .mov (.c (.bool false)), none⟩] none)
  (.seq (.seq (.region [⟨(some 6), .mov (.t 0), none⟩,
    ⟨(some 7), .len false (.t 6), none⟩,
    ⟨(some 8), .mov (.t 1), none⟩,
    ⟨(some 9), .len false (.t 8), none⟩,
    ⟨(some 10), .bin .neq (.t 7) (.t 9), none⟩] none)
  (.cond (.t 10) (.seq (.region [⟨(some 4), .mov (.c (.bool false)), none⟩] none)
  (.ret))
  (.skip)))
  (.seq (.seq (.region [⟨(some 11), .mov (.t 0), none⟩,
    ⟨(some 12), .len false (.t 11), none⟩,
    ⟨(some 13), .mov (.c (.int .i64 0)), none⟩] none)
  (.block 0 (.loop body16)))
  (.seq (.region [⟨(some 4), .mov (.c (.bool true)), none⟩] none)
  (.ret))))
theorem fn16 : env0.fn 16 = some ⟨26, ic16, [.t 4]⟩ := by kernel_rfl


set_option maxHeartbeats 2000000 in
theorem equal16 (a b : List Int) (ha : a.length ≤ 100000) : PF Try.prog 16 [vsI a, vsI b] (.bool (decide (a = b))) := by
  have hca : (a.map fun z => ([.int .i64 z] : List AV)).length = a.length := List.length_map ..
  have hcb : (b.map fun z => ([.int .i64 z] : List AV)).length = b.length := List.length_map ..
  refine PF_of_Z env0_ok fn16 [(0, vsI a), (1, vsI b)] (by show 2 ≤ 26; decide) rfl fun w0 N0 => ?_
  unfold ic16
  repeat (first | refine z_seq ?_ | refine z_region rfl ?_ | refine o_nil ?_ | refine u_seq ?_ | refine o_mov rfl ?_ | refine o_len rfl rfl ?_)
  refine o_cmp rfl rfl rfl (fun h1 => ?_) fun h1 => ?_
  · have h1 := bne_iff_ne.1 h1
    rw [hca, hcb] at h1
    rw [decide_eq_false (fun h => h1 (by rw [h]))]
    repeat (first | refine z_seq ?_ | refine z_region rfl ?_ | refine o_nil ?_ | refine u_seq ?_ | refine z_ct rfl ?_ | refine z_ret ?_ | refine u_ret_seq ?_ | refine o_mov rfl ?_)
    exact u_end ⟨.inr rfl, _, rfl, rfl⟩
  have h1 : (((a.map fun z => ([.int .i64 z] : List AV)).length : Nat) : Int) = ((b.map fun z => ([.int .i64 z] : List AV)).length : Nat) := by simpa using h1
  rw [hca, hcb] at h1
  have hab : a.length = b.length := by omega
  repeat (first | refine z_seq ?_ | refine z_region rfl ?_ | refine o_nil ?_ | refine u_seq ?_ | refine z_block ?_ | refine z_skip ?_ | refine z_cf rfl ?_ | refine o_mov rfl ?_ | refine o_len rfl rfl ?_)
  refine z_loop (fun mm S => ∃ i, mm = a.length - i ∧ i ≤ a.length ∧ decide (a = b) = decide (a.drop i = b.drop i) ∧
      S = st 26 [(0, vsI a), (1, vsI b), (12, .int .i64 (a.map fun z => ([.int .i64 z] : List AV)).length), (13, .int .i64 (i : Nat))] [] 0 1) a.length
    (sub_ren0 (.cons rfl (.same rfl) (.cons rfl (.same rfl) (.cons rfl (.same rfl) (.cons rfl (.same rfl) .nil))))) ⟨0, rfl, Nat.zero_le _, rfl, rfl⟩ ?_
  rintro mm S ⟨i, rfl, hi, hall, rfl⟩
  unfold body16
  repeat (first | refine z_seq ?_ | refine z_region rfl ?_)
  refine o_cmp rfl rfl rfl (fun h3 => ?_) fun h3 => ?_
  · have hlt : i < a.length := by
      have := of_decide_eq_true h3
      rw [hca] at this
      omega
    have hda : a.drop i = a[i] :: a.drop (i + 1) := List.drop_eq_getElem_cons hlt
    have hdb : b.drop i = b[i]'(by omega) :: b.drop (i + 1) := List.drop_eq_getElem_cons (by omega)
    rw [hda, hdb] at hall
    have hga := vsI_get a i hlt
    have hgb := vsI_get b i (by omega)
    generalize a[i] = x at hall hga
    generalize b[i]'(by omega) = y at hall hgb
    repeat (first | refine z_seq ?_ | refine z_region rfl ?_ | refine o_nil ?_ | refine u_seq ?_ | refine z_block ?_ | refine z_skip ?_ | refine z_ct rfl ?_ | refine o_mov rfl ?_ | refine z_drawn0 env0_ok rfl rfl rfl ?_)
    refine o_idxs rfl rfl (Int.natCast_nonneg i) hga rfl ?_
    repeat (first | refine o_mov rfl ?_ | refine o_load rfl rfl ?_)
    refine o_idxs rfl rfl (Int.natCast_nonneg i) hgb rfl ?_
    repeat (first | refine o_load rfl rfl ?_)
    refine o_cmp rfl rfl rfl (fun h4 => ?_) fun h4 => ?_
    · have h4 := bne_iff_ne.1 h4
      rw [hall, decide_eq_false (fun h => h4 (by injection h))]
      repeat (first | refine z_seq ?_ | refine z_region rfl ?_ | refine o_nil ?_ | refine u_seq ?_ | refine z_ct rfl ?_ | refine z_ret ?_ | refine u_ret_seq ?_ | refine u_ret_blk ?_ | refine o_mov rfl ?_)
      refine u_out_ret ?_
      repeat (first | refine u_ret_seq ?_ | refine u_ret_blk ?_)
      exact u_end ⟨.inr rfl, _, rfl, rfl⟩
    · have h4 : x = y := by simpa using h4
      repeat (first | refine z_region rfl ?_ | refine o_nil ?_ | refine u_seq ?_ | refine u_blk ?_ | refine z_skip ?_ | refine z_cf rfl ?_ | refine o_mov rfl ?_ | refine o_bin (op := .add) rfl rfl rfl ?_)
      exact u_round (show a.length - (i + 1) < a.length - i by omega) (sub_ren0 (.cons rfl (.same rfl) (.cons rfl (.same rfl) (.cons rfl (.same rfl) (.cons rfl (ren_eq (congrArg (AV.int .i64) (wrap_succ i (by omega))) rfl) .nil))))) ⟨i + 1, rfl, hlt, by rw [hall, h4]; simp, rfl⟩
  · have hi2 : i = a.length := by
      have := of_decide_eq_false h3
      rw [hca] at this
      omega
    rw [hi2, List.drop_length, hab, List.drop_length] at hall
    rw [hall]
    repeat (first | refine z_seq ?_ | refine o_nil ?_ | refine u_seq ?_ | refine z_cf rfl ?_ | refine z_exit ?_ | refine u_exit_seq ?_)
    refine u_out ?_
    repeat (first | refine z_seq ?_ | refine z_region rfl ?_ | refine o_nil ?_ | refine u_seq ?_ | refine z_ret ?_ | refine u_exit ?_ | refine o_mov rfl ?_)
    exact u_end ⟨.inr rfl, _, rfl, rfl⟩

end Go.Proofs.Ytofkihmckookjaa
