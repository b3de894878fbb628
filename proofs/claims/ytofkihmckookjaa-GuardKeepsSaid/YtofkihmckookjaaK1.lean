/-
  MEMBERS OF LISTS OF NUMBERS; RIGHT GUARDS.
-/
import Derived.Test.YtofkihmckookjaaPB
namespace Go.Proofs.Ytofkihmckookjaa
open Go Go.Am

def ixI (x : Int) : Nat → List Int → Int
  | _, [] => -1
  | i, y :: ys => if (x == y) = true then (i : Int) else ixI x (i + 1) ys

theorem ixI_any (x : Int) : ∀ (i : Nat) (l : List Int), decide (ixI x i l ≥ 0) = l.any (· == x)
  | _, [] => rfl
  | i, y :: ys => by
    rw [ixI, List.any_cons]
    by_cases h : x = y
    · subst h
      rw [if_pos (by simp), decide_eq_true (by omega)]
      simp
    · rw [if_neg (by simpa using h), ixI_any x (i + 1) ys, show (y == x) = false from by simpa using fun e => h e.symm, Bool.false_or]

def b69_0 : IC := .seq (.region [⟨(some 9), .bin .lss (.t 8) (.t 7), none⟩] none)
  (.seq (.cond (.t 9) (.skip)
  (.exit 0))
  (.seq (.block 1 (.seq (.region [⟨(some 10), .mov (.t 8), none⟩,
    ⟨(some 5), .mov (.t 10), none⟩] none)
  (.seq (.region [⟨(some 11), .mov (.t 1), none⟩,
    ⟨(some 12), .mov (.t 0), none⟩,
    ⟨(some 13), .mov (.t 5), none⟩,
    ⟨(some 14), .idxs 1 (.t 12) (.t 13), none⟩,
    ⟨(some 15), .load none (.t 14), none⟩,
    ⟨(some 16), .bin .eql (.t 11) (.t 15), none⟩] none)
  (.cond (.t 16) (.seq (.region [⟨(some 17), .mov (.t 5), none⟩,
    ⟨(some 4), .mov (.t 17), none⟩] none)
  (.ret))
  (.skip)))))
  (.region [⟨(some 18), .bin .add (.t 8) (.c (.int .i64 1)), none⟩,
    ⟨(some 8), .mov (.t 18), none⟩] none)))

-- slices.Index[[]int,int]
def ic69 : IC := .seq (.region [⟨(some 4), .mov (.c (.int .i64 0)), none⟩] none)
  (.seq (.seq (.region [⟨(some 6), .mov (.t 0), none⟩,
    ⟨(some 7), .len false (.t 6), none⟩,
    ⟨(some 8), .mov (.c (.int .i64 0)), none⟩] none)
  (.block 0 (.loop b69_0)))
  (.seq (.region [⟨(some 4), .mov (.c (.int .i64 (-1))), none⟩] none)
  (.ret)))
theorem fn69 : env0.fn 69 = some ⟨19, ic69, [.t 4]⟩ := by kernel_rfl


theorem index69 (l : List Int) (hl : l.length ≤ 100000) (x : Int) : PF Try.prog 69 [vsI l, .int .i64 x] (.int .i64 (ixI x 0 l)) := by
  have hcl : (l.map fun z => ([.int .i64 z] : List AV)).length = l.length := List.length_map ..
  refine PF_of_Z env0_ok fn69 [(0, vsI l), (1, .int .i64 x)] (by show 2 ≤ 19; decide) rfl fun w0 N0 => ?_
  unfold ic69
  repeat (first | refine z_seq ?_ | refine z_region rfl ?_ | refine o_nil ?_ | refine u_seq ?_ | refine z_block ?_ | refine o_mov rfl ?_ | refine o_len rfl rfl ?_)
  refine z_loop (fun mm S => ∃ i, mm = l.length - i ∧ i ≤ l.length ∧ ixI x 0 l = ixI x i (l.drop i) ∧
      S = st 19 [(0, vsI l), (1, .int .i64 x), (7, .int .i64 (l.map fun z => ([.int .i64 z] : List AV)).length), (8, .int .i64 (i : Nat))] [] 0 1) l.length
    (sub_ren0 (.cons rfl (.same rfl) (.cons rfl (.same rfl) (.cons rfl (.same rfl) (.cons rfl (.same rfl) .nil))))) ⟨0, rfl, Nat.zero_le _, rfl, rfl⟩ ?_
  rintro mm S ⟨i, rfl, hi, hall, rfl⟩
  unfold b69_0
  repeat (first | refine z_seq ?_ | refine z_region rfl ?_)
  refine o_cmp rfl rfl rfl (fun h3 => ?_) fun h3 => ?_
  · have hlt : i < l.length := by
      have : ((i : Nat) : Int) < ((l.map fun z => ([.int .i64 z] : List AV)).length : Nat) := of_decide_eq_true h3
      rw [hcl] at this
      omega
    have hd : l.drop i = l[i] :: l.drop (i + 1) := List.drop_eq_getElem_cons hlt
    rw [hd, ixI] at hall
    have hg := vsI_get l i hlt
    generalize l[i] = y at hall hg
    repeat (first | refine z_seq ?_ | refine z_region rfl ?_ | refine o_nil ?_ | refine u_seq ?_ | refine z_block ?_ | refine z_skip ?_ | refine z_ct rfl ?_ | refine o_mov rfl ?_ | refine o_load rfl rfl ?_ | refine o_idxs rfl rfl (by omega) (by assumption) rfl ?_)
    refine o_cmp rfl rfl rfl (fun h4 => ?_) fun h4 => ?_
    · rw [if_pos h4] at hall
      rw [hall]
      repeat (first | refine z_seq ?_ | refine z_region rfl ?_ | refine o_nil ?_ | refine u_seq ?_ | refine z_ct rfl ?_ | refine z_ret ?_ | refine u_ret_seq ?_ | refine u_ret_blk ?_ | refine o_mov rfl ?_)
      refine u_out_ret ?_
      repeat (first | refine u_ret_seq ?_ | refine u_ret_blk ?_)
      exact u_end ⟨.inr rfl, _, rfl, rfl⟩
    · rw [if_neg (by rw [h4]; decide)] at hall
      repeat (first | refine z_region rfl ?_ | refine o_nil ?_ | refine u_seq ?_ | refine u_blk ?_ | refine z_skip ?_ | refine z_cf rfl ?_ | refine o_mov rfl ?_ | refine o_bin (op := .add) rfl rfl rfl ?_)
      exact u_round (show l.length - (i + 1) < l.length - i by omega) (sub_ren0 (.cons rfl (.same rfl) (.cons rfl (.same rfl) (.cons rfl (.same rfl) (.cons rfl (ren_eq (congrArg (AV.int .i64) (wrap_succ i (by omega))) rfl) .nil))))) ⟨i + 1, rfl, hlt, hall, rfl⟩
  · have hi2 : i = l.length := by
      have : ¬ ((i : Nat) : Int) < ((l.map fun z => ([.int .i64 z] : List AV)).length : Nat) := of_decide_eq_false h3
      rw [hcl] at this
      omega
    rw [hi2, List.drop_length, ixI] at hall
    rw [hall]
    repeat (first | refine z_seq ?_ | refine o_nil ?_ | refine u_seq ?_ | refine z_cf rfl ?_ | refine z_exit ?_ | refine u_exit_seq ?_)
    refine u_out ?_
    repeat (first | refine z_seq ?_ | refine z_region rfl ?_ | refine o_nil ?_ | refine u_seq ?_ | refine z_ret ?_ | refine u_exit ?_ | refine o_mov rfl ?_)
    exact u_end ⟨.inr rfl, _, rfl, rfl⟩

-- slices.Contains[[]int,int]
def ic39 : IC := .seq (.region [⟨(some 4), .mov (.c (.bool false)), none⟩] none)
  (.seq (.region [⟨(some 5), .mov (.t 0), none⟩,
    ⟨(some 6), .mov (.t 1), none⟩,
    ⟨(some 7), .call (.c (.fn 69 [] [])) [(.t 5), (.t 6)], none⟩,
    ⟨(some 8), .bin .geq (.t 7) (.c (.int .i64 0)), none⟩,
    ⟨(some 4), .mov (.t 8), none⟩] none)
  (.ret))
theorem fn39 : env0.fn 39 = some ⟨9, ic39, [.t 4]⟩ := by kernel_rfl


theorem contains39 (l : List Int) (hl : l.length ≤ 100000) (x : Int) : PF Try.prog 39 [vsI l, .int .i64 x] (.bool (l.any (· == x))) := by
  have h69 := index69 l hl x
  have ha := ixI_any x 0 l
  refine PF_of_Z env0_ok fn39 [(0, vsI l), (1, .int .i64 x)] (by show 2 ≤ 9; decide) rfl fun w0 N0 => ?_
  unfold ic39
  rw [← ha]
  repeat (first | refine z_seq ?_ | refine z_region rfl ?_ | refine o_nil ?_ | refine u_seq ?_ | refine o_mov rfl ?_)
  refine o_call rfl rfl h69 (fun h => Bool.noConfusion (show false = true from h)) ?_
  refine o_cmp rfl rfl rfl (fun h => ?_) fun h => ?_
  all_goals
    rw [h]
    repeat (first | refine o_nil ?_ | refine u_seq ?_ | refine z_ret ?_ | refine o_mov rfl ?_)
    exact u_end ⟨.inr rfl, _, rfl, rfl⟩

def rightB (l : List Ex) (n : Int) : Bool := decide (1 ≤ n ∧ n ≤ 4 ∧ l.length ≤ 8 ∧ fewB l = true ∧ guardC l n = 0)

-- pneumatic/pneumaticlaw49.right
def ic31 : IC := .seq (.region [⟨(some 2), .box (.t 0), none⟩,
    ⟨(some 4), .mov (.c (.bool false)), none⟩] none)
  (.seq (.region [⟨(some 5), .mov (.t 1), none⟩,
    ⟨(some 6), .bin .geq (.t 5) (.c (.int .i64 1)), none⟩,
    ⟨(some 7), .mov (.t 6), none⟩,
    ⟨(some 8), .mov (.t 1), some (7, true)⟩,
    ⟨(some 9), .bin .leq (.t 8) (.c (.int .i64 4)), some (7, true)⟩,
    ⟨(some 10), .pick (.t 7) (.t 9) (.c (.bool false)), none⟩,
    ⟨(some 11), .mov (.t 10), none⟩,
    ⟨(some 12), .faddr 0 (.t 2), some (11, true)⟩,
    ⟨(some 13), .load none (.t 12), some (11, true)⟩,
    ⟨(some 14), .len false (.t 13), some (11, true)⟩,
    ⟨(some 15), .bin .leq (.t 14) (.c (.int .i64 8)), some (11, true)⟩,
    ⟨(some 16), .pick (.t 11) (.t 15) (.c (.bool false)), none⟩,
    ⟨(some 17), .mov (.t 16), none⟩,
    ⟨(some 18), .load (some 1) (.t 2), some (17, true)⟩,
    ⟨(some 19), .call (.c (.fn 11 [] [])) [(.t 18)], some (17, true)⟩,
    ⟨(some 20), .pick (.t 17) (.t 19) (.c (.bool false)), none⟩,
    ⟨(some 21), .mov (.t 20), none⟩,
    ⟨(some 22), .load (some 1) (.t 2), some (21, true)⟩,
    ⟨(some 23), .mov (.t 1), some (21, true)⟩,
    ⟨(some 24), .call (.c (.fn 29 [] [])) [(.t 22), (.t 23)], some (21, true)⟩,
    ⟨(some 25), .bin .eql (.t 24) (.c (.int .i64 0)), some (21, true)⟩,
    ⟨(some 26), .pick (.t 21) (.t 25) (.c (.bool false)), none⟩,
    ⟨(some 4), .mov (.t 26), none⟩] none)
  (.ret))
theorem fn31 : env0.fn 31 = some ⟨27, ic31, [.t 4]⟩ := by kernel_rfl


theorem right31 (l : List Ex) (hlen : l.length < 9223372036854775808) (hsl : ∀ y ∈ l, Slim y) (n : Int) : PF Try.prog 31 [.agg [.vs (cXs l)], .int .i64 n] (.bool (rightB l n)) := by
  have h11 := few11 l hlen hsl
  have h29 := gcheck29 l hsl n
  have hcl : (cXs l).length = l.length := cXs_length l
  refine PF_of_Z env0_ok fn31 [(0, .agg [.vs (cXs l)]), (1, .int .i64 n)] (by show 2 ≤ 27; decide) rfl fun w0 N0 => ?_
  unfold ic31
  repeat (first | refine z_seq ?_ | refine z_region rfl ?_ | refine o_nil ?_ | refine u_seq ?_ | refine o_mov rfl ?_ | refine o_box rfl rfl ?_)
  refine o_cmp rfl rfl rfl (fun h1 => ?_) fun h1 => ?_
  · have h1 : n ≥ 1 := of_decide_eq_true h1
    repeat (first | refine o_gy rfl ?_ | refine o_mov rfl ?_)
    refine o_cmp rfl rfl rfl (fun h2 => ?_) fun h2 => ?_
    · have h2 : n ≤ 4 := of_decide_eq_true h2
      repeat (first | refine o_gy rfl ?_ | refine o_mov rfl ?_ | refine o_load rfl rfl ?_ | refine o_faddrm rfl ?_ | refine o_pickt rfl rfl ?_ | refine o_len rfl rfl ?_)
      refine o_cmp rfl rfl rfl (fun h3 => ?_) fun h3 => ?_
      · have h3 : (((cXs l).length : Nat) : Int) ≤ 8 := of_decide_eq_true h3
        repeat (first | refine o_gy rfl ?_ | refine o_mov rfl ?_ | refine o_loadn rfl rfl rfl rfl ?_ | refine o_pickt rfl rfl ?_)
        refine o_call rfl rfl h11 (fun h => Bool.noConfusion (show false = true from h)) ?_
        cases hf : fewB l with
        | true =>
          repeat (first | refine o_gy rfl ?_ | refine o_mov rfl ?_ | refine o_loadn rfl rfl rfl rfl ?_ | refine o_pickt rfl rfl ?_)
          refine o_call rfl rfl h29 (fun h => Bool.noConfusion (show false = true from h)) ?_
          repeat (first | refine o_gy rfl ?_)
          refine o_cmp rfl rfl rfl (fun h4 => ?_) fun h4 => ?_
          · have h4 : guardC l n = 0 := by simpa using h4
            rw [show rightB l n = true from decide_eq_true ⟨h1, h2, by omega, hf, h4⟩]
            repeat (first | refine o_nil ?_ | refine u_seq ?_ | refine z_ret ?_ | refine o_mov rfl ?_ | refine o_pickt rfl rfl ?_)
            exact u_end ⟨.inr rfl, _, rfl, rfl⟩
          · have h4 : guardC l n ≠ 0 := by simpa using h4
            rw [show rightB l n = false from decide_eq_false fun h => h4 h.2.2.2.2]
            repeat (first | refine o_nil ?_ | refine u_seq ?_ | refine z_ret ?_ | refine o_mov rfl ?_ | refine o_pickt rfl rfl ?_)
            exact u_end ⟨.inr rfl, _, rfl, rfl⟩
        | false =>
          rw [show rightB l n = false from decide_eq_false fun h => by rw [hf] at h; exact Bool.noConfusion h.2.2.2.1]
          repeat (first | refine o_nil ?_ | refine u_seq ?_ | refine z_ret ?_ | refine o_gn rfl rfl ?_ | refine o_mov rfl ?_ | refine o_pickt rfl rfl ?_ | refine o_pickf rfl rfl ?_)
          exact u_end ⟨.inr rfl, _, rfl, rfl⟩
      · have h3 : ¬ (((cXs l).length : Nat) : Int) ≤ 8 := of_decide_eq_false h3
        rw [show rightB l n = false from decide_eq_false fun h => by omega]
        repeat (first | refine o_nil ?_ | refine u_seq ?_ | refine z_ret ?_ | refine o_gn rfl rfl ?_ | refine o_mov rfl ?_ | refine o_pickt rfl rfl ?_ | refine o_pickf rfl rfl ?_)
        exact u_end ⟨.inr rfl, _, rfl, rfl⟩
    · have h2 : ¬ n ≤ 4 := of_decide_eq_false h2
      rw [show rightB l n = false from decide_eq_false fun h => h2 h.2.1]
      repeat (first | refine o_nil ?_ | refine u_seq ?_ | refine z_ret ?_ | refine o_gn rfl rfl ?_ | refine o_mov rfl ?_ | refine o_pickt rfl rfl ?_ | refine o_pickf rfl rfl ?_)
      exact u_end ⟨.inr rfl, _, rfl, rfl⟩
  · have h1 : ¬ n ≥ 1 := of_decide_eq_false h1
    rw [show rightB l n = false from decide_eq_false fun h => h1 h.1]
    repeat (first | refine o_nil ?_ | refine u_seq ?_ | refine z_ret ?_ | refine o_gn rfl rfl ?_ | refine o_mov rfl ?_ | refine o_pickf rfl rfl ?_)
    exact u_end ⟨.inr rfl, _, rfl, rfl⟩

/-! ### What is kept needs no more -/

theorem combs_sub : ∀ m : Nat, ∀ p ∈ combs (List.replicate m [0, 2]), p ∈ combs (List.replicate m [0, 1, 2])
  | 0, p, h => h
  | m + 1, p, h => by
    rw [List.replicate_succ, combs, List.mem_flatMap] at h
    obtain ⟨x, hx, hp⟩ := h
    obtain ⟨r, hr, rfl⟩ := List.mem_map.1 hp
    rw [List.replicate_succ, combs, List.mem_flatMap]
    refine ⟨x, ?_, List.mem_map.2 ⟨r, combs_sub m r hr, rfl⟩⟩
    simp only [List.mem_cons, List.not_mem_nil, or_false] at hx ⊢
    omega

theorem allowed_alike {l k : List Ex} {m : Nat} (h : alikeB (combs (List.replicate m [0, 1, 2])) l k = true) : allowedL l m = allowedL k m := by
  unfold allowedL
  apply List.filter_congr
  intro p hp
  unfold alikeB at h
  rw [List.all_eq_true] at h
  exact eq_of_beq (h p (combs_sub m p hp))

theorem need_erase {C : List (List Int)} {K : List Ex} {j a : Nat} (hj : j < a) (hk : j < K.length) (h : needB C K j = true) : needB C (K.eraseIdx a) j = true := by
  unfold needB at *
  rw [List.any_eq_true] at *
  obtain ⟨p, hp, e⟩ := h
  refine ⟨p, hp, ?_⟩
  have e := of_decide_eq_true e
  refine decide_eq_true ?_
  have hK : K = K.take j ++ K[j] :: K.drop (j + 1) := by rw [← List.drop_eq_getElem_cons hk, List.take_append_drop]
  have hl : (K.take j).length = j := by rw [List.length_take]; omega
  have h1 := idxs_one (holdB (sw p)) K[j] (K.drop (j + 1)) (K.take j) 0
  rw [← hK, hl, Nat.zero_add] at h1
  obtain ⟨a1, a2, a3⟩ := h1.1 e
  have hE : K.eraseIdx a = K.take j ++ K[j] :: (K.drop (j + 1)).eraseIdx (a - (j + 1)) := by
    conv => lhs; rw [hK]
    rw [List.eraseIdx_append_of_length_le (by omega), hl, show a - j = (a - (j + 1)) + 1 from by omega, List.eraseIdx_cons_succ]
  have h2 := idxs_one (holdB (sw p)) K[j] ((K.drop (j + 1)).eraseIdx (a - (j + 1))) (K.take j) 0
  rw [← hE, hl, Nat.zero_add] at h2
  refine h2.2 ⟨a1, a2, ?_⟩
  rw [List.any_eq_false] at a3 ⊢
  exact fun x hx => a3 x (List.mem_of_mem_eraseIdx hx)

theorem kp_need (C : List (List Int)) (l : List Ex) : ∀ i, i ≤ l.length → ∀ j, j < (kh C l i).length → needB C (kp C l i) j = true
  | 0, _, j, hj => by
    have : (kh C l 0).length = 0 := by unfold kh; rw [List.take_zero]; rfl
    omega
  | i + 1, hi, j, hj => by
    obtain ⟨a, ha, hak, hr, hk⟩ := red_step C l i (by omega)
    have ih := kp_need C l i (by omega)
    have hl1 := kh_len C l i (by omega)
    have hl2 := kh_len C l (i + 1) hi
    rw [hk]
    rw [hr] at hl2
    cases hn : needB C (kp C l i) a with
    | true =>
      rw [hn, if_pos rfl] at hl2
      rw [if_pos rfl]
      by_cases e : j = a
      · rw [e]; exact hn
      · exact ih j (by omega)
    | false =>
      rw [hn, if_neg (by decide), List.length_append] at hl2
      have hl2 : _ + ((redF C l i).length + 1) = i + 1 := hl2
      rw [if_neg (by decide)]
      exact need_erase (by omega) (by omega) (ih j (by omega))

theorem kp_len (C : List (List Int)) (l : List Ex) : (kp C l l.length).length + (redF C l l.length).length = l.length := by
  have := kh_len C l l.length (Nat.le_refl _)
  rw [kp_split, List.drop_length, List.append_nil]
  exact this

theorem kp_red (C : List (List Int)) (l : List Ex) : ∀ j, j ≤ (kp C l l.length).length → redF C (kp C l l.length) j = []
  | 0, _ => rfl
  | j + 1, hj => by
    have ih := kp_red C l j (by omega)
    obtain ⟨a, ha, hak, hr, hk⟩ := red_step C (kp C l l.length) j (by omega)
    have hkk : kp C (kp C l l.length) j = kp C l l.length := by
      show woL (redF C (kp C l l.length) j) 0 (kp C l l.length) = _
      rw [ih]
      exact woL_ge _ 0 fun x hx => by cases hx
    rw [ih] at ha hr
    have ha : a = j := ha
    have hsp := kp_split C l l.length
    rw [List.drop_length, List.append_nil] at hsp
    have hn := kp_need C l l.length (Nat.le_refl _) a (by rw [← hsp]; omega)
    rw [hr, hkk, hn, if_pos rfl]

end Go.Proofs.Ytofkihmckookjaa
