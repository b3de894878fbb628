/-
  THE STROKES THAT ARE PERMITTED: the reference's Moves, and Permitted twice.
-/
import Derived.Test.YtoiblgbaeglgoaaVH4
namespace Go.Proofs.Ytoiblgbaeglgoaa
open Go Go.Am

theorem cSs_hasM (a : List Sk) : hasM.hasML (cSs a).flatten = false := by
  induction a with
  | nil => rfl
  | cons s a ih =>
    have : (cSs (s :: a)).flatten = .int .i64 s.a :: .bool s.o :: (cSs a).flatten := rfl
    rw [this]
    simp only [hasM.hasML, ih]
    rfl

def b103_0 : IC := .seq (.seq (.region [⟨(some 8), .mov (.t 6), none⟩,
    ⟨(some 9), .mov (.t 1), none⟩,
    ⟨(some 10), .len false (.t 9), none⟩,
    ⟨(some 11), .bin .lss (.t 8) (.t 10), none⟩] none)
  (.cond (.t 11) (.skip)
  (.exit 0)))
  (.seq (.block 1 (.seq (.region [⟨(some 14), .mov (.t 6), none⟩,
    ⟨(some 15), .mov (.t 1), none⟩,
    ⟨(some 16), .mov (.t 6), none⟩,
    ⟨(some 17), .idxs 1 (.t 15) (.t 16), none⟩,
    ⟨(some 18), .load none (.t 17), none⟩,
    ⟨(some 19), .un .not (.t 18), none⟩,
    ⟨(some 20), .build [.int .i64 0, .bool false] [(0, 1, (.t 14)), (1, 1, (.t 19))], none⟩,
    ⟨(some 7), .alloc [.int .i64 0, .bool false], none⟩,
    ⟨none, .store 2 (.t 7) (.t 20), none⟩] none)
  (.seq (.region [⟨(some 21), .load (some 1) (.t 2), none⟩,
    ⟨(some 22), .mov (.t 1), none⟩,
    ⟨(some 23), .load (some 2) (.t 7), none⟩,
    ⟨(some 24), .call (.c (.fn 105 [] [])) [(.t 21), (.t 22), (.t 23)], none⟩] none)
  (.cond (.t 24) (.region [⟨(some 25), .mov (.t 5), none⟩,
    ⟨(some 26), .load (some 2) (.t 7), none⟩,
    ⟨(some 27), .bslice 2 1 [.int .i64 0, .bool false] [(0, 2, (.t 26))], none⟩,
    ⟨(some 28), .append 2 16 [.int .i64 0, .bool false] (.t 25) (.t 27), none⟩,
    ⟨(some 5), .mov (.t 28), none⟩] none)
  (.skip)))))
  (.region [⟨(some 12), .mov (.t 6), none⟩,
    ⟨(some 13), .bin .add (.t 12) (.c (.int .i64 1)), none⟩,
    ⟨(some 6), .mov (.t 13), none⟩] none))

-- pneumatic/pneumaticref50.Moves
def ic103 : IC := .seq (.region [⟨(some 2), .box (.t 0), none⟩,
    ⟨(some 4), .mov (.c (.nils)), none⟩] none)
  (.seq (.region [⟨(some 5), .mov (.c (.nils)), none⟩] none)
  (.seq (.seq (.region [⟨(some 6), .mov (.c (.int .i64 0)), none⟩] none)
  (.block 0 (.loop b103_0)))
  (.seq (.region [⟨(some 29), .mov (.t 5), none⟩,
    ⟨(some 4), .mov (.t 29), none⟩] none)
  (.ret))))
theorem fn103 : env0.fn 103 = some ⟨30, ic103, [.t 4]⟩ := by kernel_rfl

set_option maxHeartbeats 2000000 in
theorem moves103 (l : List Ex) (e : List Bool) (h1 : 1 ≤ e.length) (h4 : e.length ≤ 4) (hg : guardC l e.length = 0) :
    PF Try.prog 103 [.agg [.vs (cXs l)], vsB e] (.vs (cSs (movesL l e))) := by
  have hel : (e.map fun b => ([.bool b] : List AV)).length = e.length := List.length_map ..
  refine PF_of_Z env0_ok fn103 [(0, .agg [.vs (cXs l)]), (1, vsB e)] (by show 2 ≤ 30; decide) rfl fun w0 N0 => ?_
  unfold ic103
  repeat (first | refine z_seq ?_ | refine z_region rfl ?_ | refine o_nil ?_ | refine u_seq ?_ | refine z_block ?_ | refine o_mov rfl ?_ | refine o_box rfl rfl ?_)
  refine z_loop (fun mm S => ∃ i, mm = e.length - i ∧ i ≤ e.length ∧ S = st 30 [(1, vsB e), (2, .vptr [.vs (cXs l)]), (5, .ms 0 0 2 0 (movesT l e i).length none), (6, .int .i64 (i : Nat))] [(0, 0, .cells (cSs (movesT l e i)).flatten)] 1 1) e.length
    (sub_renw [(none, [])] [(0, 0, [.vs (cXs l)])] rfl rfl rfl (.cons rfl rfl .nil) (.new .nil) (l' := [(1, vsB e), (2, .vptr [.vs (cXs l)]), (5, .ms 0 0 2 0 0 none), (6, .int .i64 ((0 : Nat) : Int))]) (.cons rfl (.same rfl) (.cons rfl (.fptr rfl rfl) (.cons rfl (.grow rfl) (.cons rfl (.same rfl) .nil))))) ⟨0, rfl, Nat.zero_le _, rfl⟩ ?_
  rintro mm S ⟨i, rfl, hi, rfl⟩
  unfold b103_0
  repeat (first | refine z_seq ?_ | refine z_region rfl ?_ | refine o_mov rfl ?_ | refine o_len rfl rfl ?_)
  refine o_cmp rfl rfl rfl (fun h3 => ?_) fun h3 => ?_
  · have hlt : i < e.length := by
      have : ((i : Nat) : Int) < ((e.map fun b => ([.bool b] : List AV)).length : Nat) := of_decide_eq_true h3
      rw [hel] at this
      omega
    have hbg := bool_get hlt
    have hmay := may105 l e h1 h4 hg i (!(e.getD i false)) hlt
    have hr : mayR l e i (!(e.getD i false)) = mayB l e i := by
      unfold mayR
      rw [if_neg (by cases e.getD i false <;> simp)]
    rw [hr] at hmay
    have hml := movesT_len l e i
    have hsc := movesT_succ l e i
    repeat (first | refine z_seq ?_ | refine z_region rfl ?_ | refine o_nil ?_ | refine u_seq ?_ | refine z_block ?_ | refine z_skip ?_ | refine z_ct rfl ?_ | refine o_mov rfl ?_ | refine o_load rfl rfl ?_ | refine o_loadn rfl rfl rfl rfl ?_ | refine o_store rfl rfl rfl rfl rfl rfl rfl ?_ | refine o_alloc ?_ | refine o_un rfl rfl ?_ | refine o_build rfl rfl ?_ | refine o_idxs rfl rfl (by omega) (by assumption) rfl ?_)
    refine o_call rfl rfl hmay (fun h => Bool.noConfusion (show false = true from h)) ?_
    cases hbm : mayB l e i with
    | true =>
      rw [hbm, if_pos rfl] at hsc
      repeat (first | refine z_region rfl ?_ | refine o_nil ?_ | refine u_seq ?_ | refine z_ct rfl ?_ | refine o_mov rfl ?_ | refine o_loadn rfl rfl rfl rfl ?_)
      refine o_fsl [[.int .i64 (i : Nat), .bool (!(e.getD i false))]] rfl rfl rfl rfl ?_
      refine o_append_ms [[.int .i64 (i : Nat), .bool (!(e.getD i false))]] rfl rfl rfl (fun h => Nat.noConfusion h) rfl (by decide) rfl (cSs_flat_len _).symm (by show _ + 1 ≤ _; omega) ?_
      repeat (first | refine z_region rfl ?_ | refine o_nil ?_ | refine u_seq ?_ | refine u_blk ?_ | refine o_mov rfl ?_ | refine o_bin (op := .add) rfl rfl rfl ?_)
      rw [wrap_succ i (by omega)]
      exact u_round (show e.length - (i + 1) < e.length - i by omega) (sub_renw [(some (0, 2), (cSs (movesT l e (i + 1))).flatten)] [] rfl rfl rfl .nil (.cons (by rw [hsc, cSs_snoc]; rfl) (.keep (cSs_hasM _)) .nil) (.cons rfl (.same rfl) (.cons rfl (.same rfl) (.cons (by rw [hsc, List.length_append]; rfl) (.ms rfl) (.cons rfl (.same rfl) .nil))))) ⟨i + 1, rfl, hlt, rfl⟩
    | false =>
      rw [hbm, if_neg (by simp), List.append_nil] at hsc
      repeat (first | refine z_region rfl ?_ | refine o_nil ?_ | refine u_seq ?_ | refine u_blk ?_ | refine z_skip ?_ | refine z_cf rfl ?_ | refine o_mov rfl ?_ | refine o_bin (op := .add) rfl rfl rfl ?_)
      rw [wrap_succ i (by omega)]
      exact u_round (show e.length - (i + 1) < e.length - i by omega) (sub_renw [(some (0, 0), (cSs (movesT l e i)).flatten)] [] rfl rfl rfl .nil (.cons rfl (.keep (cSs_hasM _)) .nil) (.cons rfl (.same rfl) (.cons rfl (.same rfl) (.cons rfl (.ms rfl) (.cons rfl (.same rfl) .nil))))) ⟨i + 1, rfl, hlt, by rw [hsc]; rfl⟩
  · have hi2 : i = e.length := by
      have : ¬ ((i : Nat) : Int) < ((e.map fun b => ([.bool b] : List AV)).length : Nat) := of_decide_eq_false h3
      rw [hel] at this
      omega
    subst hi2
    repeat (first | refine o_nil ?_ | refine u_seq ?_ | refine z_cf rfl ?_ | refine z_exit ?_ | refine u_exit_seq ?_)
    refine u_out ?_
    repeat (first | refine z_seq ?_ | refine z_region rfl ?_ | refine o_nil ?_ | refine u_seq ?_ | refine z_ret ?_ | refine u_exit ?_ | refine o_mov rfl ?_)
    exact u_end ⟨.inr rfl, _, rfl, view_cSs (d := 3) (movesL l e) rfl⟩

-- pneumatic/pneumaticlaw50.own
def ic35 : IC := .seq (.region [⟨(some 1), .box (.t 0), none⟩,
    ⟨(some 2), .alloc [.nils], none⟩] none)
  (.seq (.region [⟨(some 3), .load (some 1) (.t 1), none⟩,
    ⟨none, .store 1 (.t 2) (.t 3), none⟩] none)
  (.ret))
theorem fn35 : env0.fn 35 = some ⟨4, ic35, [.cell 2 (some 1)]⟩ := by kernel_rfl

theorem own35 (l : List Ex) : PF Try.prog 35 [.agg [.vs (cXs l)]] (.agg [.vs (cXs l)]) := by
  refine PF_of_Z env0_ok fn35 [(0, .agg [.vs (cXs l)])] (by show 1 ≤ 4; decide) rfl fun w0 N0 => ?_
  unfold ic35
  repeat (first | refine z_seq ?_ | refine z_region rfl ?_ | refine o_nil ?_ | refine u_seq ?_ | refine z_ret ?_ | refine o_loadn rfl rfl rfl rfl ?_ | refine o_store rfl rfl rfl rfl rfl rfl rfl ?_ | refine o_alloc ?_ | refine o_box rfl rfl ?_)
  exact u_end ⟨.inr rfl, _, rfl, rfl⟩

-- pneumatic/pneumaticref50.Few
def ic34 : IC := .seq (.region [⟨(some 2), .box (.t 0), none⟩,
    ⟨(some 4), .mov (.c (.bool false)), none⟩] none)
  (.seq (.region [⟨(some 5), .load (some 1) (.t 2), none⟩,
    ⟨(some 6), .call (.c (.fn 15 [] [])) [(.t 5)], none⟩,
    ⟨(some 7), .mov (.t 6), none⟩,
    ⟨(some 8), .mov (.t 1), some (7, true)⟩,
    ⟨(some 9), .bin .leq (.t 8) (.c (.int .i64 4)), some (7, true)⟩,
    ⟨(some 10), .mov (.t 9), some (7, true)⟩,
    ⟨(some 11), .mov (.t 1), some (10, false)⟩,
    ⟨(some 12), .bin .gtr (.t 11) (.c (.int .i64 6)), some (10, false)⟩,
    ⟨(some 13), .pick (.t 10) (.c (.bool true)) (.t 12), some (7, true)⟩,
    ⟨(some 14), .pick (.t 7) (.t 13) (.c (.bool false)), none⟩,
    ⟨(some 4), .mov (.t 14), none⟩] none)
  (.ret))
theorem fn34 : env0.fn 34 = some ⟨15, ic34, [.t 4]⟩ := by kernel_rfl

def fewH (l : List Ex) (n : Int) : Bool := fewB l && (decide (n ≤ 4) || decide (n > 6))

theorem few34 (l : List Ex) (hlen : l.length < 9223372036854775808) (hsl : ∀ y ∈ l, Slim y) (n : Int) : PF Try.prog 34 [.agg [.vs (cXs l)], .int .i64 n] (.bool (fewH l n)) := by
  have h15 := few11 l hlen hsl
  refine PF_of_Z env0_ok fn34 [(0, .agg [.vs (cXs l)]), (1, .int .i64 n)] (by show 2 ≤ 15; decide) rfl fun w0 N0 => ?_
  unfold ic34 fewH
  repeat (first | refine z_seq ?_ | refine z_region rfl ?_ | refine o_nil ?_ | refine u_seq ?_ | refine o_mov rfl ?_ | refine o_loadn rfl rfl rfl rfl ?_ | refine o_box rfl rfl ?_)
  refine o_call rfl rfl h15 (fun h => Bool.noConfusion (show false = true from h)) ?_
  cases hf : fewB l with
  | false =>
    repeat (first | refine o_nil ?_ | refine u_seq ?_ | refine z_ret ?_ | refine o_gn rfl rfl ?_ | refine o_gt rfl ?_ | refine o_mov rfl ?_ | refine o_pickf rfl rfl ?_)
    exact u_end ⟨.inr rfl, _, rfl, rfl⟩
  | true =>
    repeat (first | refine o_gy rfl ?_ | refine o_mov rfl ?_)
    refine o_cmp rfl rfl rfl (fun h => ?_) fun h => ?_
    · rw [h]
      repeat (first | refine o_nil ?_ | refine u_seq ?_ | refine z_ret ?_ | refine o_gy rfl ?_ | refine o_gn rfl rfl ?_ | refine o_mov rfl ?_ | refine o_pickt rfl rfl ?_)
      exact u_end ⟨.inr rfl, _, rfl, rfl⟩
    · rw [h]
      repeat (first | refine o_gy rfl ?_ | refine o_mov rfl ?_)
      refine o_cmp rfl rfl rfl (fun h => ?_) fun h => ?_
      · rw [h]
        repeat (first | refine o_nil ?_ | refine u_seq ?_ | refine z_ret ?_ | refine o_gy rfl ?_ | refine o_mov rfl ?_ | refine o_pickt rfl rfl ?_ | refine o_pickf rfl rfl ?_)
        exact u_end ⟨.inr rfl, _, rfl, rfl⟩
      · rw [h]
        repeat (first | refine o_nil ?_ | refine u_seq ?_ | refine z_ret ?_ | refine o_gy rfl ?_ | refine o_mov rfl ?_ | refine o_pickt rfl rfl ?_ | refine o_pickf rfl rfl ?_)
        exact u_end ⟨.inr rfl, _, rfl, rfl⟩

end Go.Proofs.Ytoiblgbaeglgoaa
