/-
  THE LAW OF HOMINGS: its walk.
-/
import Derived.Test.YtoiblgbaeglgoaaVH16
import Derived.Test.YtoiblgbaeglgoaaVT3d
namespace Go.Proofs.Ytoiblgbaeglgoaa
open Go Go.Am

def findC (l : List Ex) (e : List Bool) : Int :=
  if guardC l e.length = 0 then (if freeB l (posE e) then (if (levL l e.length).getD (idxE e) 0 < 0 then 6 else 0) else 22) else guardC l e.length

def findL (l : List Ex) (e : List Bool) : List Sk :=
  if guardC l e.length = 0 then (if freeB l (posE e) then (if (levL l e.length).getD (idxE e) 0 < 0 then [] else homeP l e.length (levL l e.length) ((levL l e.length).getD (idxE e) 0).toNat (idxE e)) else []) else []

theorem findV_eq (l : List Ex) (e : List Bool) : findV l e = .tup [.vs (cSs (findL l e)), .int .i64 (findC l e)] := by
  unfold findV findL findC
  repeat' split
  all_goals rfl

theorem findL_len {l : List Ex} {e : List Bool} (h4 : guardC l e.length = 0 → e.length ≤ 4) : (findL l e).length ≤ 100 := by
  unfold findL
  repeat' split
  · exact Nat.zero_le _
  · rename_i hg _ _
    obtain ⟨g1, _⟩ := guardC_ok hg
    have h4 := h4 hg
    have h1 : 1 ≤ e.length := by omega
    have hb := lev_bound h4 (lev_any (l := l) h1 h4) _ (idx_lt h1 h4)
    have := homeP_len l e.length (levL l e.length) ((levL l e.length).getD (idxE e) 0).toNat (idxE e)
    omega
  · exact Nat.zero_le _
  · exact Nat.zero_le _

theorem awake36' : PF Try.prog 36 [] (.bool true) := tab36_ok _ (List.mem_cons_self ..) _ (List.mem_cons_self ..)

theorem few_of' {l : List Ex} {n : Int} (h : fewH l n = true) (hg : guardC l n = 0) : n ≤ 4 := by
  obtain ⟨g1, g2, _⟩ := guardC_ok hg
  unfold fewH at h
  simp only [Bool.and_eq_true, Bool.or_eq_true, decide_eq_true_eq] at h
  omega

def b39_0 : IC := .seq (.region [⟨(some 14), .bin .lss (.t 13) (.t 12), none⟩] none)
  (.seq (.cond (.t 14) (.skip)
  (.exit 0))
  (.seq (.block 1 (.seq (.region [⟨(some 15), .mov (.t 13), none⟩,
    ⟨(some 5), .mov (.t 15), none⟩] none)
  (.seq (.region [⟨(some 16), .mov (.t 0), none⟩,
    ⟨(some 17), .mov (.t 5), none⟩,
    ⟨(some 18), .idxs 2 (.t 16) (.t 17), none⟩,
    ⟨(some 19), .load (some 2) (.t 18), none⟩,
    ⟨(some 20), .mov (.t 1), none⟩,
    ⟨(some 21), .mov (.t 5), none⟩,
    ⟨(some 22), .idxs 2 (.t 20) (.t 21), none⟩,
    ⟨(some 23), .load (some 2) (.t 22), none⟩,
    ⟨(some 24), .eqs true [(0, .int), (1, .bool)] (.t 19) (.t 23), none⟩] (some [[], [], [0, 1], [2], [], [], [4, 5], [6], [3, 7]]))
  (.cond (.t 24) (.seq (.region [⟨(some 4), .mov (.c (.bool false)), none⟩] none)
  (.ret))
  (.skip)))))
  (.region [⟨(some 25), .bin .add (.t 13) (.c (.int .i64 1)), none⟩,
    ⟨(some 13), .mov (.t 25), none⟩] none)))

-- slices.Equal[[]pneumatic/api.Stroke,pneumatic/api.Stroke]
def ic39 : IC := .seq (.region [⟨(some 4), .mov (.c (.bool false)), none⟩] none)
  (.seq (.seq (.region [⟨(some 6), .mov (.t 0), none⟩,
    ⟨(some 7), .len false (.t 6), none⟩,
    ⟨(some 8), .mov (.t 1), none⟩,
    ⟨(some 9), .len false (.t 8), none⟩,
    ⟨(some 10), .bin .neq (.t 7) (.t 9), none⟩] none)
  (.cond (.t 10) (.seq (.region [⟨(some 4), .mov (.c (.bool false)), none⟩] none)
  (.ret))
  (.skip)))
  (.seq (.seq (.region [⟨(some 11), .mov (.t 0), none⟩,
    ⟨(some 12), .len false (.t 11), none⟩,
    ⟨(some 13), .mov (.c (.int .i64 0)), none⟩] none)
  (.block 0 (.loop b39_0)))
  (.seq (.region [⟨(some 4), .mov (.c (.bool true)), none⟩] none)
  (.ret))))
theorem fn39 : env0.fn 39 = some ⟨26, ic39, [.t 4]⟩ := by kernel_rfl

theorem refl39' (a : List Sk) (ha : a.length ≤ 100000) : PF Try.prog 39 [.vs (cSs a), .vs (cSs a)] (.bool true) := by
  have hal : (cSs a).length = a.length := cSs_length a
  refine PF_of_Z env0_ok fn39 [(0, .vs (cSs a)), (1, .vs (cSs a))] (by show 2 ≤ 26; decide) rfl fun w0 N0 => ?_
  unfold ic39
  repeat (first | refine z_seq ?_ | refine z_region rfl ?_ | refine o_nil ?_ | refine u_seq ?_ | refine o_mov rfl ?_ | refine o_len rfl rfl ?_)
  refine o_cmp rfl rfl rfl (fun h => absurd h (by simp)) fun _ => ?_
  repeat (first | refine z_seq ?_ | refine z_region rfl ?_ | refine o_nil ?_ | refine u_seq ?_ | refine z_block ?_ | refine z_skip ?_ | refine z_cf rfl ?_ | refine o_mov rfl ?_ | refine o_len rfl rfl ?_)
  refine z_loop (fun mm S => ∃ i, mm = a.length - i ∧ i ≤ a.length ∧ S = st 26 [(0, .vs (cSs a)), (1, .vs (cSs a)), (12, .int .i64 (cSs a).length), (13, .int .i64 (i : Nat))] [] 0 1) a.length
    (sub_ren0 (.cons rfl (.same rfl) (.cons rfl (.same rfl) (.cons rfl (.same rfl) (.cons rfl (.same rfl) .nil))))) ⟨0, rfl, Nat.zero_le _, rfl⟩ ?_
  rintro mm S ⟨i, rfl, hi, rfl⟩
  unfold b39_0
  repeat (first | refine z_seq ?_ | refine z_region rfl ?_)
  refine o_cmp rfl rfl rfl (fun h3 => ?_) fun h3 => ?_
  · have hlt : i < a.length := by
      have : ((i : Nat) : Int) < ((cSs a).length : Nat) := of_decide_eq_true h3
      rw [hal] at this
      omega
    have hg := cSs_get hlt
    generalize a[i] = s at hg
    obtain ⟨sa, so⟩ := s
    have hg : (cSs a)[((i : Nat) : Int).toNat]? = some [.int .i64 sa, .bool so] := hg
    repeat (first | refine z_seq ?_ | refine z_region rfl ?_ | refine o_nil ?_ | refine u_seq ?_ | refine z_block ?_ | refine z_skip ?_ | refine z_ct rfl ?_ | refine o_mov rfl ?_ | refine o_loadn rfl rfl rfl rfl ?_ | refine z_drawn0 env0_ok rfl rfl rfl ?_ | refine o_idxs rfl rfl (by omega) (by assumption) rfl ?_)
    refine o_eqs rfl rfl rfl (fun h => absurd h (by simp)) fun _ => ?_
    repeat (first | refine z_region rfl ?_ | refine o_nil ?_ | refine u_seq ?_ | refine u_blk ?_ | refine z_skip ?_ | refine z_cf rfl ?_ | refine o_mov rfl ?_ | refine o_bin (op := .add) rfl rfl rfl ?_)
    rw [wrap_succ i (by omega)]
    exact u_round (show a.length - (i + 1) < a.length - i by omega) (sub_ren0 (.cons rfl (.same rfl) (.cons rfl (.same rfl) (.cons rfl (.same rfl) (.cons rfl (.same rfl) .nil))))) ⟨i + 1, rfl, hlt, rfl⟩
  · repeat (first | refine z_seq ?_ | refine o_nil ?_ | refine u_seq ?_ | refine z_cf rfl ?_ | refine z_exit ?_ | refine u_exit_seq ?_)
    refine u_out ?_
    repeat (first | refine z_seq ?_ | refine z_region rfl ?_ | refine o_nil ?_ | refine u_seq ?_ | refine z_ret ?_ | refine u_exit ?_ | refine o_mov rfl ?_)
    exact u_end ⟨.inr rfl, _, rfl, rfl⟩

-- pneumatic/pneumaticlaw50.HomingFinds
def ic6 : IC := .seq (.region [⟨(some 2), .box (.t 0), none⟩,
    ⟨(some 4), .mov (.c (.bool false)), none⟩] none)
  (.seq (.seq (.region [⟨(some 9), .load (some 1) (.t 2), none⟩,
    ⟨(some 10), .call (.c (.fn 35 [] [])) [(.t 9)], none⟩,
    ⟨(some 11), .mov (.t 1), none⟩,
    ⟨(some 12), .len false (.t 11), none⟩,
    ⟨(some 13), .call (.c (.fn 34 [] [])) [(.t 10), (.t 12)], none⟩,
    ⟨(some 14), .un .not (.t 13), none⟩,
    ⟨(some 15), .mov (.t 14), none⟩,
    ⟨(some 16), .mov (.t 1), some (15, false)⟩,
    ⟨(some 17), .len false (.t 16), some (15, false)⟩,
    ⟨(some 18), .bin .gtr (.t 17) (.c (.int .i64 40)), some (15, false)⟩,
    ⟨(some 19), .pick (.t 15) (.c (.bool true)) (.t 18), none⟩] none)
  (.cond (.t 19) (.seq (.region [⟨(some 20), .call (.c (.fn 36 [] [])) [], none⟩,
    ⟨(some 4), .mov (.t 20), none⟩] none)
  (.ret))
  (.skip)))
  (.seq (.region [⟨(some 22), .load (some 1) (.t 2), none⟩,
    ⟨(some 23), .mov (.t 1), none⟩,
    ⟨(some 24), .call (.c (.fn 37 [] [])) [(.t 22), (.t 23)], none⟩,
    ⟨(some 21), .mov (.t 24), none⟩,
    ⟨(some 25), .extract (.t 21) 0, none⟩,
    ⟨(some 26), .extract (.t 21) 1, none⟩,
    ⟨(some 5), .mov (.t 25), none⟩,
    ⟨(some 6), .mov (.t 26), none⟩] none)
  (.seq (.region [⟨(some 28), .load (some 1) (.t 2), none⟩,
    ⟨(some 29), .call (.c (.fn 35 [] [])) [(.t 28)], none⟩,
    ⟨(some 30), .mov (.t 1), none⟩,
    ⟨(some 31), .call (.c (.fn 38 [] [])) [(.t 29), (.t 30)], none⟩,
    ⟨(some 27), .mov (.t 31), none⟩,
    ⟨(some 32), .extract (.t 27) 0, none⟩,
    ⟨(some 33), .extract (.t 27) 1, none⟩,
    ⟨(some 7), .mov (.t 32), none⟩,
    ⟨(some 8), .mov (.t 33), none⟩] none)
  (.seq (.region [⟨(some 34), .mov (.t 5), none⟩,
    ⟨(some 35), .mov (.t 7), none⟩,
    ⟨(some 36), .call (.c (.fn 39 [] [])) [(.t 34), (.t 35)], none⟩,
    ⟨(some 37), .mov (.t 36), none⟩,
    ⟨(some 38), .mov (.t 6), some (37, true)⟩,
    ⟨(some 39), .mov (.t 8), some (37, true)⟩,
    ⟨(some 40), .bin .eql (.t 38) (.t 39), some (37, true)⟩,
    ⟨(some 41), .pick (.t 37) (.t 40) (.c (.bool false)), none⟩,
    ⟨(some 42), .mov (.t 41), none⟩,
    ⟨(some 43), .call (.c (.fn 36 [] [])) [], some (42, true)⟩,
    ⟨(some 44), .pick (.t 42) (.t 43) (.c (.bool false)), none⟩,
    ⟨(some 4), .mov (.t 44), none⟩] none)
  (.ret)))))
theorem fn6 : env0.fn 6 = some ⟨45, ic6, [.t 4]⟩ := by kernel_rfl

set_option maxHeartbeats 4000000 in
theorem law6h (l : List Ex) (hlen : l.length < 9223372036854775808) (hsl : ∀ y ∈ l, Slim y) (e : List Bool) : PF Try.prog 6 [.agg [.vs (cXs l)], vsB e] (.bool true) := by
  have hfew := few34 l hlen hsl e.length
  have hown := own35 l
  have hel : (e.map fun b => ([.bool b] : List AV)).length = e.length := List.length_map ..
  have haw := awake36'
  refine PF_of_Z env0_ok fn6 [(0, .agg [.vs (cXs l)]), (1, vsB e)] (by show 2 ≤ 45; decide) rfl fun w0 N0 => ?_
  unfold ic6
  repeat (first | refine z_seq ?_ | refine z_region rfl ?_ | refine o_nil ?_ | refine u_seq ?_ | refine o_mov rfl ?_ | refine o_loadn rfl rfl rfl rfl ?_ | refine o_box rfl rfl ?_)
  refine o_call rfl rfl hown (fun h => Bool.noConfusion (show false = true from h)) ?_
  repeat (first | refine o_mov rfl ?_ | refine o_len rfl rfl ?_)
  rw [hel]
  refine o_call rfl rfl hfew (fun h => Bool.noConfusion (show false = true from h)) ?_
  repeat (first | refine o_mov rfl ?_ | refine o_un rfl rfl ?_)
  cases hfw : fewH l e.length with
  | false =>
    repeat (first | refine z_seq ?_ | refine z_region rfl ?_ | refine o_nil ?_ | refine u_seq ?_ | refine z_ct rfl ?_ | refine o_gn rfl rfl ?_ | refine o_pickt rfl rfl ?_)
    refine o_call rfl rfl haw (fun h => Bool.noConfusion (show false = true from h)) ?_
    repeat (first | refine o_nil ?_ | refine u_seq ?_ | refine z_ret ?_ | refine u_ret_seq ?_ | refine o_mov rfl ?_)
    exact u_end ⟨.inr rfl, _, rfl, rfl⟩
  | true =>
    have h4 : guardC l e.length = 0 → e.length ≤ 4 := fun h => by have := few_of' hfw h; omega
    repeat (first | refine o_gy rfl ?_ | refine o_mov rfl ?_ | refine o_len rfl rfl ?_)
    rw [hel]
    refine o_cmp rfl rfl rfl (fun h => ?_) fun h => ?_
    · repeat (first | refine z_seq ?_ | refine z_region rfl ?_ | refine o_nil ?_ | refine u_seq ?_ | refine z_ct rfl ?_ | refine o_pickf rfl rfl ?_)
      refine o_call rfl rfl haw (fun h => Bool.noConfusion (show false = true from h)) ?_
      repeat (first | refine o_nil ?_ | refine u_seq ?_ | refine z_ret ?_ | refine u_ret_seq ?_ | refine o_mov rfl ?_)
      exact u_end ⟨.inr rfl, _, rfl, rfl⟩
    have p1 := find37 l hsl e h4
    have p2 := find38 l hsl e h4
    rw [findV_eq] at p1 p2
    have hr := refl39' (findL l e) (by have := findL_len h4; omega)
    repeat (first | refine z_seq ?_ | refine z_region rfl ?_ | refine o_nil ?_ | refine u_seq ?_ | refine z_skip ?_ | refine z_cf rfl ?_ | refine o_mov rfl ?_ | refine o_loadn rfl rfl rfl rfl ?_ | refine o_pickf rfl rfl ?_)
    refine o_call rfl rfl p1 (fun h => Bool.noConfusion (show false = true from h)) ?_
    repeat (first | refine z_seq ?_ | refine z_region rfl ?_ | refine o_nil ?_ | refine u_seq ?_ | refine o_mov rfl ?_ | refine o_loadn rfl rfl rfl rfl ?_ | refine o_extract rfl rfl ?_)
    refine o_call rfl rfl hown (fun h => Bool.noConfusion (show false = true from h)) ?_
    repeat (first | refine o_mov rfl ?_)
    refine o_call rfl rfl p2 (fun h => Bool.noConfusion (show false = true from h)) ?_
    repeat (first | refine z_seq ?_ | refine z_region rfl ?_ | refine o_nil ?_ | refine u_seq ?_ | refine o_mov rfl ?_ | refine o_extract rfl rfl ?_)
    refine o_call rfl rfl hr (fun h => Bool.noConfusion (show false = true from h)) ?_
    repeat (first | refine o_gy rfl ?_ | refine o_mov rfl ?_)
    refine o_cmp rfl rfl rfl (fun _ => ?_) fun h => absurd h (by simp)
    repeat (first | refine o_gy rfl ?_ | refine o_mov rfl ?_ | refine o_pickt rfl rfl ?_)
    refine o_call rfl rfl haw (fun h => Bool.noConfusion (show false = true from h)) ?_
    repeat (first | refine o_nil ?_ | refine u_seq ?_ | refine z_ret ?_ | refine o_mov rfl ?_ | refine o_pickt rfl rfl ?_)
    exact u_end ⟨.inr rfl, _, rfl, rfl⟩

end Go.Proofs.Ytoiblgbaeglgoaa
