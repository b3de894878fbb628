/-
  STROKES AND THE OPPOSITE ONES: the law's walk.
-/
import Derived.Test.YtoiblgbaeglgoaaYH17
namespace Go.Proofs.Ytoiblgbaeglgoaa
open Go Go.Am

-- pneumatic/pneumaticlaw50.right
def ic40 : IC := .seq (.region [⟨(some 2), .box (.t 0), none⟩,
    ⟨(some 4), .mov (.c (.bool false)), none⟩] none)
  (.seq (.region [⟨(some 5), .mov (.t 1), none⟩,
    ⟨(some 6), .bin .geq (.t 5) (.c (.int .i64 1)), none⟩,
    ⟨(some 7), .mov (.t 6), none⟩,
    ⟨(some 8), .mov (.t 1), some (7, true)⟩,
    ⟨(some 9), .bin .leq (.t 8) (.c (.int .i64 4)), some (7, true)⟩,
    ⟨(some 10), .pick (.t 7) (.t 9) (.c (.bool false)), none⟩,
    ⟨(some 11), .mov (.t 10), none⟩,
    ⟨(some 12), .faddr 0 (.t 2), some (11, true)⟩,
    ⟨(some 13), .load none (.t 12), some (11, true)⟩,
    ⟨(some 14), .len false (.t 13), some (11, true)⟩,
    ⟨(some 15), .bin .leq (.t 14) (.c (.int .i64 6)), some (11, true)⟩,
    ⟨(some 16), .pick (.t 11) (.t 15) (.c (.bool false)), none⟩,
    ⟨(some 17), .mov (.t 16), none⟩,
    ⟨(some 18), .load (some 1) (.t 2), some (17, true)⟩,
    ⟨(some 19), .call (.c (.fn 35 [] [])) [(.t 18)], some (17, true)⟩,
    ⟨(some 20), .call (.c (.fn 15 [] [])) [(.t 19)], some (17, true)⟩,
    ⟨(some 21), .pick (.t 17) (.t 20) (.c (.bool false)), none⟩,
    ⟨(some 22), .mov (.t 21), none⟩,
    ⟨(some 23), .load (some 1) (.t 2), some (22, true)⟩,
    ⟨(some 24), .call (.c (.fn 35 [] [])) [(.t 23)], some (22, true)⟩,
    ⟨(some 25), .mov (.t 1), some (22, true)⟩,
    ⟨(some 26), .call (.c (.fn 67 [] [])) [(.t 24), (.t 25)], some (22, true)⟩,
    ⟨(some 27), .bin .eql (.t 26) (.c (.int .i64 0)), some (22, true)⟩,
    ⟨(some 28), .pick (.t 22) (.t 27) (.c (.bool false)), none⟩,
    ⟨(some 4), .mov (.t 28), none⟩] none)
  (.ret))
theorem fn40 : env0.fn 40 = some ⟨29, ic40, [.t 4]⟩ := by kernel_rfl

def rightB (l : List Ex) (n : Int) : Bool := decide (n ≥ 1) && decide (n ≤ 4) && decide ((l.length : Int) ≤ 6) && fewB l && (guardC l n == 0)

theorem right40 (l : List Ex) (hlen : l.length < 9223372036854775808) (hsl : ∀ y ∈ l, Slim y) (n : Int) : PF Try.prog 40 [.agg [.vs (cXs l)], .int .i64 n] (.bool (rightB l n)) := by
  have hown := own35 l
  have hfew := few11 l hlen hsl
  have hgc := gcheck29 l hsl n
  have hcl : (cXs l).length = l.length := cXs_length l
  refine PF_of_Z env0_ok fn40 [(0, .agg [.vs (cXs l)]), (1, .int .i64 n)] (by show 2 ≤ 29; decide) rfl fun w0 N0 => ?_
  unfold ic40 rightB
  repeat (first | refine z_seq ?_ | refine z_region rfl ?_ | refine o_nil ?_ | refine u_seq ?_ | refine o_mov rfl ?_ | refine o_box rfl rfl ?_)
  refine o_cmp rfl rfl rfl (fun h => ?_) fun h => ?_
  · rw [h]
    repeat (first | refine o_gy rfl ?_ | refine o_mov rfl ?_)
    refine o_cmp rfl rfl rfl (fun h2 => ?_) fun h2 => ?_
    · rw [h2]
      repeat (first | refine o_gy rfl ?_ | refine o_mov rfl ?_ | refine o_load rfl rfl ?_ | refine o_faddrm rfl ?_ | refine o_pickt rfl rfl ?_ | refine o_len rfl rfl ?_)
      rw [hcl]
      refine o_cmp rfl rfl rfl (fun h3 => ?_) fun h3 => ?_
      · rw [h3]
        repeat (first | refine o_gy rfl ?_ | refine o_mov rfl ?_ | refine o_loadn rfl rfl rfl rfl ?_ | refine o_pickt rfl rfl ?_)
        refine o_call rfl rfl hown (fun h => Bool.noConfusion (show false = true from h)) ?_
        repeat (first | refine o_gy rfl ?_)
        refine o_call rfl rfl hfew (fun h => Bool.noConfusion (show false = true from h)) ?_
        cases hf : fewB l with
        | true =>
          repeat (first | refine o_gy rfl ?_ | refine o_mov rfl ?_ | refine o_loadn rfl rfl rfl rfl ?_ | refine o_pickt rfl rfl ?_)
          refine o_call rfl rfl hown (fun h => Bool.noConfusion (show false = true from h)) ?_
          repeat (first | refine o_gy rfl ?_ | refine o_mov rfl ?_)
          refine o_call rfl rfl hgc (fun h => Bool.noConfusion (show false = true from h)) ?_
          repeat (first | refine o_gy rfl ?_)
          refine o_bin (op := .eql) rfl rfl rfl ?_
          repeat (first | refine o_nil ?_ | refine u_seq ?_ | refine z_ret ?_ | refine o_mov rfl ?_ | refine o_pickt rfl rfl ?_)
          exact u_end ⟨.inr rfl, _, rfl, rfl⟩
        | false =>
          repeat (first | refine o_nil ?_ | refine u_seq ?_ | refine z_ret ?_ | refine o_gn rfl rfl ?_ | refine o_mov rfl ?_ | refine o_pickt rfl rfl ?_ | refine o_pickf rfl rfl ?_)
          exact u_end ⟨.inr rfl, _, rfl, rfl⟩
      · rw [h3]
        repeat (first | refine o_nil ?_ | refine u_seq ?_ | refine z_ret ?_ | refine o_gn rfl rfl ?_ | refine o_mov rfl ?_ | refine o_pickt rfl rfl ?_ | refine o_pickf rfl rfl ?_)
        exact u_end ⟨.inr rfl, _, rfl, rfl⟩
    · rw [h2]
      repeat (first | refine o_nil ?_ | refine u_seq ?_ | refine z_ret ?_ | refine o_gn rfl rfl ?_ | refine o_mov rfl ?_ | refine o_pickt rfl rfl ?_ | refine o_pickf rfl rfl ?_)
      exact u_end ⟨.inr rfl, _, rfl, rfl⟩
  · rw [h]
    repeat (first | refine o_nil ?_ | refine u_seq ?_ | refine z_ret ?_ | refine o_gn rfl rfl ?_ | refine o_mov rfl ?_ | refine o_pickf rfl rfl ?_)
    exact u_end ⟨.inr rfl, _, rfl, rfl⟩

theorem right_ok {l : List Ex} {n : Int} (h : rightB l n = true) : 1 ≤ n ∧ n ≤ 4 ∧ l.length ≤ 6 ∧ guardC l n = 0 := by
  unfold rightB at h
  simp only [Bool.and_eq_true, decide_eq_true_eq, beq_iff_eq] at h
  omega

def eqS (s t : Sk) : Bool := s.a == t.a && s.o == t.o

def ixS (s : Sk) : List Sk → Nat → Int
  | [], _ => -1
  | t :: r, j => if eqS s t then (j : Nat) else ixS s r (j + 1)

theorem ixS_any (s : Sk) : ∀ (a : List Sk) (b : Nat), decide (ixS s a b ≥ 0) = a.any (eqS s)
  | [], b => rfl
  | t :: r, b => by
    rw [ixS, List.any_cons]
    cases h : eqS s t with
    | true => rw [if_pos rfl, Bool.true_or]; exact decide_eq_true (Int.natCast_nonneg b)
    | false => rw [if_neg (by decide), Bool.false_or]; exact ixS_any s r (b + 1)

def b102_0 : IC := .seq (.region [⟨(some 9), .bin .lss (.t 8) (.t 7), none⟩] none)
  (.seq (.cond (.t 9) (.skip)
  (.exit 0))
  (.seq (.block 1 (.seq (.region [⟨(some 10), .mov (.t 8), none⟩,
    ⟨(some 5), .mov (.t 10), none⟩] none)
  (.seq (.region [⟨(some 11), .load (some 2) (.t 3), none⟩,
    ⟨(some 12), .mov (.t 0), none⟩,
    ⟨(some 13), .mov (.t 5), none⟩,
    ⟨(some 14), .idxs 2 (.t 12) (.t 13), none⟩,
    ⟨(some 15), .load (some 2) (.t 14), none⟩,
    ⟨(some 16), .eqs false [(0, .int), (1, .bool)] (.t 11) (.t 15), none⟩] (some [[], [], [], [1, 2], [3], [0, 4]]))
  (.cond (.t 16) (.seq (.region [⟨(some 17), .mov (.t 5), none⟩,
    ⟨(some 4), .mov (.t 17), none⟩] none)
  (.ret))
  (.skip)))))
  (.region [⟨(some 18), .bin .add (.t 8) (.c (.int .i64 1)), none⟩,
    ⟨(some 8), .mov (.t 18), none⟩] none)))

-- slices.Index[[]pneumatic/api.Stroke,pneumatic/api.Stroke]
def ic102 : IC := .seq (.region [⟨(some 3), .box (.t 1), none⟩,
    ⟨(some 4), .mov (.c (.int .i64 0)), none⟩] none)
  (.seq (.seq (.region [⟨(some 6), .mov (.t 0), none⟩,
    ⟨(some 7), .len false (.t 6), none⟩,
    ⟨(some 8), .mov (.c (.int .i64 0)), none⟩] none)
  (.block 0 (.loop b102_0)))
  (.seq (.region [⟨(some 4), .mov (.c (.int .i64 (-1))), none⟩] none)
  (.ret)))
theorem fn102 : env0.fn 102 = some ⟨19, ic102, [.t 4]⟩ := by kernel_rfl

set_option maxHeartbeats 2000000 in
theorem index102 (a : List Sk) (s : Sk) (ha : a.length ≤ 100000) : PF Try.prog 102 [.vs (cSs a), .agg (cS s)] (.int .i64 (ixS s a 0)) := by
  have hcl : (cSs a).length = a.length := cSs_length a
  obtain ⟨sa, so⟩ := s
  refine PF_of_Z env0_ok fn102 [(0, .vs (cSs a)), (1, .agg (cS ⟨sa, so⟩))] (by show 2 ≤ 19; decide) rfl fun w0 N0 => ?_
  unfold ic102 cS
  repeat (first | refine z_seq ?_ | refine z_region rfl ?_ | refine o_nil ?_ | refine u_seq ?_ | refine z_block ?_ | refine o_mov rfl ?_ | refine o_len rfl rfl ?_ | refine o_box rfl rfl ?_)
  rw [hcl]
  refine z_loop (fun mm S => ∃ j, mm = a.length - j ∧ j ≤ a.length ∧ ixS ⟨sa, so⟩ a 0 = ixS ⟨sa, so⟩ (a.drop j) j ∧ S = st 19 [(0, .vs (cSs a)), (3, .vptr [.int .i64 sa, .bool so]), (7, .int .i64 (a.length : Nat)), (8, .int .i64 (j : Nat))] [] 0 1) a.length
    (sub_renw [] [(0, 0, [.int .i64 sa, .bool so])] rfl rfl rfl (.cons rfl rfl .nil) .nil (l' := [(0, .vs (cSs a)), (3, .vptr [.int .i64 sa, .bool so]), (7, .int .i64 (a.length : Nat)), (8, .int .i64 ((0 : Nat) : Int))]) (.cons rfl (.same rfl) (.cons rfl (.fptr rfl rfl) (.cons rfl (.same rfl) (.cons rfl (.same rfl) .nil))))) ⟨0, rfl, Nat.zero_le _, rfl, rfl⟩ ?_
  rintro mm S ⟨j, rfl, hj, hfx, rfl⟩
  unfold b102_0
  repeat (first | refine z_seq ?_ | refine z_region rfl ?_)
  refine o_cmp rfl rfl rfl (fun h3 => ?_) fun h3 => ?_
  · have hlt : j < a.length := by have := of_decide_eq_true h3; omega
    rw [List.drop_eq_getElem_cons hlt, ixS] at hfx
    have hge := cSs_get hlt
    generalize a[j] = t at hfx hge
    obtain ⟨ta, to⟩ := t
    have hge : (cSs a)[((j : Nat) : Int).toNat]? = some [.int .i64 ta, .bool to] := hge
    have heq : eqS ⟨sa, so⟩ ⟨ta, to⟩ = (sa == ta && so == to) := rfl
    repeat (first | refine z_seq ?_ | refine z_region rfl ?_ | refine o_nil ?_ | refine u_seq ?_ | refine z_block ?_ | refine z_skip ?_ | refine z_ct rfl ?_ | refine o_mov rfl ?_ | refine o_loadn rfl rfl rfl rfl ?_ | refine z_drawn0 env0_ok rfl rfl rfl ?_ | refine o_idxs rfl rfl (by omega) (by assumption) rfl ?_)
    refine o_eqs rfl rfl rfl (fun h => ?_) fun h => ?_
    · have h : (sa == ta && so == to) = true := by simpa using h
      rw [heq, h, if_pos rfl] at hfx
      rw [hfx]
      repeat (first | refine z_seq ?_ | refine z_region rfl ?_ | refine o_nil ?_ | refine u_seq ?_ | refine z_ct rfl ?_ | refine z_ret ?_ | refine u_ret_seq ?_ | refine u_ret_blk ?_ | refine o_mov rfl ?_)
      refine u_out_ret ?_
      repeat (first | refine u_ret_seq ?_ | refine u_ret_blk ?_)
      exact u_end ⟨.inr rfl, _, rfl, rfl⟩
    · have h : (sa == ta && so == to) = false := by simpa using h
      rw [heq, h, if_neg (by decide)] at hfx
      repeat (first | refine z_region rfl ?_ | refine o_nil ?_ | refine u_seq ?_ | refine u_blk ?_ | refine z_skip ?_ | refine z_cf rfl ?_ | refine o_mov rfl ?_ | refine o_bin (op := .add) rfl rfl rfl ?_)
      rw [wrap_succ j (by omega)]
      exact u_round (show a.length - (j + 1) < a.length - j by omega) (sub_ren0 (.cons rfl (.same rfl) (.cons rfl (.same rfl) (.cons rfl (.same rfl) (.cons rfl (.same rfl) .nil))))) ⟨j + 1, rfl, hlt, hfx, rfl⟩
  · have hj2 : j = a.length := by have := of_decide_eq_false h3; omega
    subst hj2
    rw [List.drop_length, ixS] at hfx
    rw [hfx]
    repeat (first | refine z_seq ?_ | refine o_nil ?_ | refine u_seq ?_ | refine z_cf rfl ?_ | refine z_exit ?_ | refine u_exit_seq ?_)
    refine u_out ?_
    repeat (first | refine z_seq ?_ | refine z_region rfl ?_ | refine o_nil ?_ | refine u_seq ?_ | refine z_ret ?_ | refine u_exit ?_ | refine o_mov rfl ?_)
    exact u_end ⟨.inr rfl, _, rfl, rfl⟩

-- slices.Contains[[]pneumatic/api.Stroke,pneumatic/api.Stroke]
def ic45 : IC := .seq (.region [⟨(some 3), .box (.t 1), none⟩,
    ⟨(some 4), .mov (.c (.bool false)), none⟩] none)
  (.seq (.region [⟨(some 5), .mov (.t 0), none⟩,
    ⟨(some 6), .load (some 2) (.t 3), none⟩,
    ⟨(some 7), .call (.c (.fn 102 [] [])) [(.t 5), (.t 6)], none⟩,
    ⟨(some 8), .bin .geq (.t 7) (.c (.int .i64 0)), none⟩,
    ⟨(some 4), .mov (.t 8), none⟩] none)
  (.ret))
theorem fn45 : env0.fn 45 = some ⟨9, ic45, [.t 4]⟩ := by kernel_rfl

theorem contains45 (a : List Sk) (s : Sk) (ha : a.length ≤ 100000) : PF Try.prog 45 [.vs (cSs a), .agg (cS s)] (.bool (a.any (eqS s))) := by
  have h := index102 a s ha
  have hx := ixS_any s a 0
  obtain ⟨sa, so⟩ := s
  refine PF_of_Z env0_ok fn45 [(0, .vs (cSs a)), (1, .agg (cS ⟨sa, so⟩))] (by show 2 ≤ 9; decide) rfl fun w0 N0 => ?_
  unfold ic45
  unfold cS at h ⊢
  repeat (first | refine z_seq ?_ | refine z_region rfl ?_ | refine o_nil ?_ | refine u_seq ?_ | refine o_mov rfl ?_ | refine o_loadn rfl rfl rfl rfl ?_ | refine o_box rfl rfl ?_)
  refine o_call rfl rfl h (fun h => Bool.noConfusion (show false = true from h)) ?_
  refine o_bin (op := .geq) rfl rfl (congrArg (fun b => some (AV.bool b)) hx) ?_
  repeat (first | refine o_nil ?_ | refine u_seq ?_ | refine z_ret ?_ | refine o_mov rfl ?_)
  exact u_end ⟨.inr rfl, _, rfl, rfl⟩

theorem moves_any (l : List Ex) (e : List Bool) {i : Nat} (hi : i < e.length) : (movesL l e).any (eqS ⟨(i : Nat), !(e.getD i false)⟩) = mayB l e i := by
  unfold movesL movesT
  rw [List.any_map, List.any_filter, Bool.eq_iff_iff, List.any_eq_true]
  constructor
  · rintro ⟨j, hj, h⟩
    simp only [Bool.and_eq_true, Function.comp, eqS, beq_iff_eq] at h
    obtain ⟨h1, h2, h3⟩ := h
    have : i = j := Int.ofNat_inj.1 h2
    subst this
    exact h1
  · intro h
    refine ⟨i, List.mem_range.2 hi, ?_⟩
    simp only [Bool.and_eq_true, Function.comp, eqS, beq_iff_eq]
    exact ⟨h, trivial, trivial⟩

end Go.Proofs.Ytoiblgbaeglgoaa
