/-
  LISTS OF EXPRESSIONS: guards that are few, and the checks of guards.
-/
import Derived.Test.YtofkihmckookjaaR13
namespace Go.Proofs.Ytofkihmckookjaa
open Go Go.Am

def fewB (l : List Ex) : Bool := !(decide (10 < l.length ∧ l.length ≤ 256) || decide (512 < l.length)) && l.all lightB

def body11 : IC := .seq (.seq (.region [⟨(some 20), .mov (.t 3), none⟩,
    ⟨(some 21), .faddr 0 (.t 1), none⟩,
    ⟨(some 22), .load none (.t 21), none⟩,
    ⟨(some 23), .len false (.t 22), none⟩,
    ⟨(some 24), .bin .lss (.t 20) (.t 23), none⟩] none)
  (.cond (.t 24) (.skip)
  (.exit 0)))
  (.seq (.block 1 (.seq (.region [⟨(some 27), .faddr 0 (.t 1), none⟩,
    ⟨(some 28), .load none (.t 27), none⟩,
    ⟨(some 29), .mov (.t 3), none⟩,
    ⟨(some 30), .idxs 3 (.t 28) (.t 29), none⟩,
    ⟨(some 31), .load (some 3) (.t 30), none⟩,
    ⟨(some 32), .call (.c (.fn 47 [] [])) [(.t 31)], none⟩,
    ⟨(some 33), .un .not (.t 32), none⟩] none)
  (.cond (.t 33) (.seq (.region [⟨(some 2), .mov (.c (.bool false)), none⟩] none)
  (.ret))
  (.skip))))
  (.region [⟨(some 25), .mov (.t 3), none⟩,
    ⟨(some 26), .bin .add (.t 25) (.c (.int .i64 1)), none⟩,
    ⟨(some 3), .mov (.t 26), none⟩] none))

-- pneumatic/pneumaticref49.Few
def ic11 : IC := .seq (.region [⟨(some 1), .box (.t 0), none⟩,
    ⟨(some 2), .mov (.c (.bool false)), none⟩] none)
  (.seq (.seq (.region [⟨(some 4), .faddr 0 (.t 1), none⟩,
    ⟨(some 5), .load none (.t 4), none⟩,
    ⟨(some 6), .len false (.t 5), none⟩,
    ⟨(some 7), .bin .gtr (.t 6) (.c (.int .i64 10)), none⟩,
    ⟨(some 8), .mov (.t 7), none⟩,
    ⟨(some 9), .faddr 0 (.t 1), some (8, true)⟩,
    ⟨(some 10), .load none (.t 9), some (8, true)⟩,
    ⟨(some 11), .len false (.t 10), some (8, true)⟩,
    ⟨(some 12), .bin .leq (.t 11) (.c (.int .i64 256)), some (8, true)⟩,
    ⟨(some 13), .pick (.t 8) (.t 12) (.c (.bool false)), none⟩,
    ⟨(some 14), .mov (.t 13), none⟩,
    ⟨(some 15), .faddr 0 (.t 1), some (14, false)⟩,
    ⟨(some 16), .load none (.t 15), some (14, false)⟩,
    ⟨(some 17), .len false (.t 16), some (14, false)⟩,
    ⟨(some 18), .bin .gtr (.t 17) (.c (.int .i64 512)), some (14, false)⟩,
    ⟨(some 19), .pick (.t 14) (.c (.bool true)) (.t 18), none⟩] none)
  (.cond (.t 19) (.seq (.region [⟨(some 2), .mov (.c (.bool false)), none⟩] none)
  (.ret))
  (.skip)))
  (.seq (.seq (.region [⟨(some 3), .mov (.c (.int .i64 0)), none⟩] none)
  (.block 0 (.loop body11)))
  (.seq (.region [⟨(some 2), .mov (.c (.bool true)), none⟩] none)
  (.ret))))
theorem fn11 : env0.fn 11 = some ⟨34, ic11, [.t 2]⟩ := by kernel_rfl


set_option maxHeartbeats 2000000 in
theorem few11 (l : List Ex) (hlen : l.length < 9223372036854775808) (hsl : ∀ y ∈ l, Slim y) : PF Try.prog 11 [.agg [.vs (cXs l)]] (.bool (fewB l)) := by
  have hcl : (cXs l).length = l.length := cXs_length l
  refine PF_of_Z env0_ok fn11 [(0, .agg [.vs (cXs l)])] (by show 1 ≤ 34; decide) rfl fun w0 N0 => ?_
  unfold ic11
  have rest : ¬ ((10 < l.length ∧ l.length ≤ 256) ∨ 512 < l.length) → fewB l = l.all lightB := fun h => by
    unfold fewB
    rw [decide_eq_false (fun h1 => h (.inl h1)), decide_eq_false (fun h1 => h (.inr h1))]
    rfl
  have none_ : ((10 < l.length ∧ l.length ≤ 256) ∨ 512 < l.length) → fewB l = false := fun h => by
    unfold fewB
    rcases h with h | h
    · rw [decide_eq_true h]; rfl
    · rw [decide_eq_true h, Bool.or_true]; rfl
  have loop : ∀ (s1 : AS), Subm w0 N0 none s1 (st 34 [(1, .mptr 0 0 0), (3, .int .i64 ((0 : Nat) : Int))] [(0, 0, .cells [.vs (cXs l)])] 1 1) → fewB l = l.all lightB →
      Zm Try.prog w0 N0 none (.loop body11) s1 [.blk 0, .seq (.seq (.region [⟨some 2, .mov (.c (.bool true)), none⟩] none) .ret)] fun e S' => (e = .normal ∨ e = .ret) ∧ ∃ v0, S'.leave.res [.t 2] = some v0 ∧ (⟨0, .nil, S'.leave.heap, S'.leave.next, S'.leave.clk, []⟩ : AS).view VD v0 = .bool (fewB l) := fun s1 hs1 hf => by
    rw [hf]
    refine z_loop (fun mm S => ∃ i, mm = l.length - i ∧ i ≤ l.length ∧ l.all lightB = (l.drop i).all lightB ∧
      S = st 34 [(1, .mptr 0 0 0), (3, .int .i64 (i : Nat))] [(0, 0, .cells [.vs (cXs l)])] 1 1) l.length hs1 ⟨0, rfl, Nat.zero_le _, rfl, rfl⟩ ?_
    rintro mm S ⟨i, rfl, hi, hall, rfl⟩
    unfold body11
    repeat (first | refine z_seq ?_ | refine z_region rfl ?_ | refine o_mov rfl ?_ | refine o_load rfl rfl ?_ | refine o_faddrm rfl ?_ | refine o_len rfl rfl ?_)
    refine o_cmp rfl rfl rfl (fun h3 => ?_) fun h3 => ?_
    · have hlt : i < l.length := by
        have := of_decide_eq_true h3
        rw [cXs_length] at this
        omega
      have hdr : l.drop i = l[i] :: l.drop (i + 1) := List.drop_eq_getElem_cons hlt
      rw [hdr] at hall
      have hge := cXs_get hlt
      have hmem : l[i] ∈ l := List.getElem_mem hlt
      generalize l[i] = y at hall hge hmem
      have hsy := hsl y hmem
      obtain ⟨yo, yi, ya⟩ := y
      repeat (first | refine z_seq ?_ | refine z_region rfl ?_ | refine o_nil ?_ | refine u_seq ?_ | refine z_block ?_ | refine z_skip ?_ | refine z_ct rfl ?_ | refine o_mov rfl ?_ | refine o_load rfl rfl ?_ | refine o_faddrm rfl ?_)
      refine o_idxs rfl rfl (Int.natCast_nonneg i) hge rfl ?_
      repeat (first | refine o_loadn rfl rfl rfl rfl ?_)
      have hc := light47 _ hsy
      rw [List.all_cons] at hall
      cases hb : lightB (.nd yo yi ya) with
      | true =>
        rw [hb] at hc hall
        rw [Bool.true_and] at hall
        refine o_call rfl rfl hc (fun h => Bool.noConfusion (show false = true from h)) ?_
        repeat (first | refine z_region rfl ?_ | refine o_nil ?_ | refine u_seq ?_ | refine u_blk ?_ | refine z_skip ?_ | refine z_cf rfl ?_ | refine o_mov rfl ?_ | refine o_un rfl rfl ?_ | refine o_bin (op := .add) rfl rfl rfl ?_)
        rw [wrap_succ i (by omega)]
        exact u_round (show l.length - (i + 1) < l.length - i by omega) (sub_keep (.cons rfl (.cons rfl .nil))) ⟨i + 1, rfl, hlt, hall, rfl⟩
      | false =>
        rw [hb] at hc hall
        rw [Bool.false_and] at hall
        refine o_call rfl rfl hc (fun h => Bool.noConfusion (show false = true from h)) ?_
        repeat (first | refine z_seq ?_ | refine z_region rfl ?_ | refine o_nil ?_ | refine u_seq ?_ | refine z_ct rfl ?_ | refine z_ret ?_ | refine u_ret_seq ?_ | refine u_ret_blk ?_ | refine o_mov rfl ?_ | refine o_un rfl rfl ?_)
        refine u_out_ret ?_
        repeat (first | refine u_ret_seq ?_ | refine u_ret_blk ?_)
        refine u_end ⟨.inr rfl, _, rfl, ?_⟩
        rw [hall]
        rfl
    · have hi2 : i = l.length := by
        have := of_decide_eq_false h3
        rw [cXs_length] at this
        omega
      subst hi2
      rw [List.drop_length] at hall
      repeat (first | refine o_nil ?_ | refine u_seq ?_ | refine z_cf rfl ?_ | refine z_exit ?_ | refine u_exit_seq ?_)
      refine u_out ?_
      repeat (first | refine z_seq ?_ | refine z_region rfl ?_ | refine o_nil ?_ | refine u_seq ?_ | refine z_ret ?_ | refine u_exit ?_ | refine o_mov rfl ?_)
      refine u_end ⟨.inr rfl, _, rfl, ?_⟩
      rw [hall]
      rfl
  repeat (first | refine z_seq ?_ | refine z_region rfl ?_ | refine o_nil ?_ | refine u_seq ?_ | refine o_mov rfl ?_ | refine o_load rfl rfl ?_ | refine o_faddrm rfl ?_ | refine o_len rfl rfl ?_ | refine o_box rfl rfl ?_)
  refine o_cmp rfl rfl rfl (fun h1 => ?_) fun h1 => ?_
  · have h1 := of_decide_eq_true h1
    repeat (first | refine o_gy rfl ?_ | refine o_mov rfl ?_ | refine o_load rfl rfl ?_ | refine o_faddrm rfl ?_ | refine o_len rfl rfl ?_)
    refine o_cmp rfl rfl rfl (fun h2 => ?_) fun h2 => ?_
    · have h2 := of_decide_eq_true h2
      repeat (first | refine z_seq ?_ | refine z_region rfl ?_ | refine o_nil ?_ | refine u_seq ?_ | refine z_ct rfl ?_ | refine z_ret ?_ | refine u_ret_seq ?_ | refine o_gn rfl rfl ?_ | refine o_mov rfl ?_ | refine o_pickt rfl rfl ?_)
      refine u_end ⟨.inr rfl, _, rfl, ?_⟩
      rw [none_ (.inl ⟨by omega, by omega⟩)]
      rfl
    · have h2 := of_decide_eq_false h2
      repeat (first | refine o_gy rfl ?_ | refine o_mov rfl ?_ | refine o_load rfl rfl ?_ | refine o_faddrm rfl ?_ | refine o_pickt rfl rfl ?_ | refine o_len rfl rfl ?_)
      refine o_cmp rfl rfl rfl (fun h3 => ?_) fun h3 => ?_
      · have h3 := of_decide_eq_true h3
        repeat (first | refine z_seq ?_ | refine z_region rfl ?_ | refine o_nil ?_ | refine u_seq ?_ | refine z_ct rfl ?_ | refine z_ret ?_ | refine u_ret_seq ?_ | refine o_mov rfl ?_ | refine o_pickf rfl rfl ?_)
        refine u_end ⟨.inr rfl, _, rfl, ?_⟩
        rw [none_ (.inr (by omega))]
        rfl
      · have h3 := of_decide_eq_false h3
        repeat (first | refine z_seq ?_ | refine z_region rfl ?_ | refine o_nil ?_ | refine u_seq ?_ | refine z_block ?_ | refine z_skip ?_ | refine z_cf rfl ?_ | refine o_mov rfl ?_ | refine o_pickf rfl rfl ?_)
        exact loop _ (sub_keep (.cons rfl (.cons rfl .nil))) (rest (by omega))
  · have h1 := of_decide_eq_false h1
    repeat (first | refine o_gy rfl ?_ | refine o_gn rfl rfl ?_ | refine o_mov rfl ?_ | refine o_load rfl rfl ?_ | refine o_faddrm rfl ?_ | refine o_pickf rfl rfl ?_ | refine o_len rfl rfl ?_)
    refine o_cmp rfl rfl rfl (fun h3 => ?_) fun h3 => ?_
    · have h3 := of_decide_eq_true h3
      exact absurd h3 (by omega)
    · repeat (first | refine z_seq ?_ | refine z_region rfl ?_ | refine o_nil ?_ | refine u_seq ?_ | refine z_block ?_ | refine z_skip ?_ | refine z_cf rfl ?_ | refine o_mov rfl ?_ | refine o_pickf rfl rfl ?_)
      exact loop _ (sub_keep (.cons rfl (.cons rfl .nil))) (rest (by omega))

end Go.Proofs.Ytofkihmckookjaa
