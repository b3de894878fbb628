/-
  AN EXPRESSION's NODES AND DEPTH: boolexp.measure.
-/
import Derived.Test.YtofkihmckookjaaR2
namespace Go.Proofs.Ytofkihmckookjaa
open Go Go.Am

def rangesOf : IC → List (Code × Code)
  | .seq a b => rangesOf a ++ rangesOf b
  | .cond _ a b => rangesOf a ++ rangesOf b
  | .block _ b => rangesOf b
  | .loop b => rangesOf b
  | .rangeFunc _ _ ca cb _ _ => [(ca, cb)]
  | _ => []

noncomputable def ca86 : Code := match env0.fn 86 with
  | some i => ((rangesOf i.ic).headD (.skip, .skip)).1
  | none => .skip

noncomputable def cb86 : Code := match env0.fn 86 with
  | some i => ((rangesOf i.ic).headD (.skip, .skip)).2
  | none => .skip

def asg86 : IC := .region [⟨(some 7), .mov (.t 10), none⟩] none

def body86 : IC := .block 1 (.seq (.region [⟨(some 12), .load none (.t 5), none⟩,
    ⟨(some 13), .bin .add (.t 12) (.c (.int .i64 1)), none⟩,
    ⟨none, .store 1 (.t 5) (.t 13), none⟩] none)
  (.seq (.region [⟨(some 14), .load none (.t 6), none⟩,
    ⟨(some 15), .mov (.t 7), none⟩,
    ⟨(some 16), .minmax true [(.t 14), (.t 15)], none⟩,
    ⟨none, .store 1 (.t 6) (.t 16), none⟩] none)
  (.seq (.region [⟨(some 17), .load none (.t 5), none⟩,
    ⟨(some 18), .bin .gtr (.t 17) (.c (.int .i64 256)), none⟩,
    ⟨(some 19), .mov (.t 18), none⟩,
    ⟨(some 20), .mov (.t 7), some (19, false)⟩,
    ⟨(some 21), .bin .gtr (.t 20) (.c (.int .i64 16)), some (19, false)⟩,
    ⟨(some 22), .pick (.t 19) (.c (.bool true)) (.t 21), none⟩] none)
  (.cond (.t 22) (.seq (.region [⟨none, .store 1 (.t 2) (.c (.int .i64 0)), none⟩,
    ⟨none, .store 1 (.t 3) (.c (.int .i64 0)), none⟩,
    ⟨none, .store 1 (.t 4) (.c (.bool false)), none⟩] none)
  (.ret))
  (.skip)))))

-- pneumatic/boolexp.measure
noncomputable def ic86 : IC := .seq (.region [⟨(some 1), .box (.t 0), none⟩,
    ⟨(some 2), .alloc [.int .i64 0], none⟩,
    ⟨(some 3), .alloc [.int .i64 0], none⟩,
    ⟨(some 4), .alloc [.bool false], none⟩] none)
  (.seq (.region [⟨(some 5), .alloc [.int .i64 0], none⟩,
    ⟨(some 6), .alloc [.int .i64 0], none⟩,
    ⟨none, .store 1 (.t 5) (.c (.int .i64 0)), none⟩,
    ⟨none, .store 1 (.t 6) (.c (.int .i64 0)), none⟩] none)
  (.seq (.seq (.region [⟨(some 8), .load (some 3) (.t 1), none⟩,
    ⟨(some 9), .call (.c (.fn 87 [] [])) [(.t 8)], none⟩] none)
  (.block 0 (.rangeFunc (.t 9) [10, 11] ca86 cb86 asg86 body86)))
  (.seq (.region [⟨(some 23), .load none (.t 5), none⟩,
    ⟨(some 24), .load none (.t 6), none⟩,
    ⟨none, .store 1 (.t 2) (.t 23), none⟩,
    ⟨none, .store 1 (.t 3) (.t 24), none⟩,
    ⟨none, .store 1 (.t 4) (.c (.bool true)), none⟩] (some [[], [], [0, 0], [1, 2, 0, 1, 2], [3, 0, 1, 2, 3]]))
  (.ret))))
theorem fn86 : env0.fn 86 = some ⟨25, ic86, [.cell 2 none, .cell 3 none, .cell 4 none]⟩ := by kernel_rfl


def deepM (m d : Int) : Int := if d > m then d else m

def stepM (s : Int × Int) (d : Int) (_ : Ex) : (Int × Int) ⊕ Unit := if s.1 + 1 > 256 ∨ d > 16 then .inr () else .inl (s.1 + 1, deepM s.2 d)

structure I86 (ltm : List (Nat × AV)) (s : Int × Int) (H : HS) : Prop where
  nx : 8 ≤ H.next
  n0 : 0 ≤ s.1 ∧ s.1 ≤ 256
  h7 : Am.look 7 H.heap = some (7, .loop .ready none 25 (tmOf ltm) [10, 11] ca86 cb86 (6, 6))
  h6 : Am.look 6 H.heap = some (6, .deferred)
  h4 : Am.look 4 H.heap = some (4, .cells [.int .i64 s.1])
  h5 : Am.look 5 H.heap = some (5, .cells [.int .i64 s.2])
  h1 : Am.look 1 H.heap = some (1, .cells [.int .i64 0])
  h2 : Am.look 2 H.heap = some (2, .cells [.int .i64 0])
  h3 : Am.look 3 H.heap = some (3, .cells [.bool false])

structure J86 (_ : Unit) (H : HS) : Prop where
  nx : 8 ≤ H.next
  h7 : ∃ tm, Am.look 7 H.heap = some (7, .loop .done (some .ret) 25 tm [10, 11] ca86 cb86 (6, 6))
  h6 : Am.look 6 H.heap = some (6, .deferred)
  h1 : Am.look 1 H.heap = some (1, .cells [.int .i64 0])
  h2 : Am.look 2 H.heap = some (2, .cells [.int .i64 0])
  h3 : Am.look 3 H.heap = some (3, .cells [.bool false])

theorem local86 (ltm : List (Nat × AV)) : Local (fun i => i < 8) (I86 ltm) :=
  ⟨fun s H h i hi => Nat.lt_of_lt_of_le hi h.nx, fun s H H' h hn hl =>
    ⟨Nat.le_trans h.nx hn, h.n0, (hl 7 (by decide)).trans h.h7, (hl 6 (by decide)).trans h.h6, (hl 4 (by decide)).trans h.h4, (hl 5 (by decide)).trans h.h5, (hl 1 (by decide)).trans h.h1, (hl 2 (by decide)).trans h.h2, (hl 3 (by decide)).trans h.h3⟩⟩

def l86 (x : Ex) : List (Nat × AV) := [(9, .fn 101 [] [.vptr (cX x)]), (8, .agg (cX x)), (6, .mptr 5 5 0), (5, .mptr 4 4 0), (4, .mptr 3 3 0), (3, .mptr 2 2 0), (2, .mptr 1 1 0), (1, .mptr 0 0 0), (0, .agg (cX x))]

set_option maxHeartbeats 2000000 in
theorem yield86 {w0 : World} {N0 : Nat} (y : Ex) (ha : Com Try.prog ca86 asg86) (hb : Com Try.prog cb86 body86) (s : Int × Int) (d : Int) (x : Ex) (H : HS) (h : I86 (l86 y) s H) :
    CT Try.prog w0 N0 (.yield 7 7) [.int .i64 d, .agg (cX x)] H (Left (fun i => i < 8) (I86 (l86 y)) J86 H (stepM s d x)) := by
  obtain ⟨n, m⟩ := s
  obtain ⟨nx, n0, h7, h6, h4, h5, h1, h2, h3⟩ := h
  simp only at n0 h4 h5
  have e1 : IntKind.wrap .i64 (n + 1) = n + 1 := wrap_small _ (by omega) (by omega)
  refine ct_yield (l0 := (11, .agg (cX x)) :: (10, .int .i64 d) :: l86 y) h7 ha hb rfl (by decide) rfl ?_
  unfold asg86
  repeat (first | refine z_region rfl ?_ | refine o_nil ?_ | refine o_mov rfl ?_)
  refine u_end ⟨rfl, _, rfl, ?_⟩
  unfold body86
  repeat (first | refine z_seq ?_ | refine z_region rfl ?_ | refine z_block ?_)
  refine o_loadm (sp := 4) (cs := [.int .i64 n]) rfl (by rw [look_putl, if_neg (by decide)]; exact h4) (by omega) rfl ?_
  repeat (first | refine o_bin (op := .add) rfl rfl rfl ?_)
  refine o_store (sp := 4) (cs := [.int .i64 n]) rfl rfl rfl rfl (by rw [look_putl, if_neg (by decide)]; exact h4) rfl rfl ?_
  repeat (first | refine z_seq ?_ | refine z_region rfl ?_ | refine o_nil ?_ | refine u_seq ?_)
  refine o_loadm (sp := 5) (cs := [.int .i64 m]) rfl (by rw [look_putl, if_neg (by decide), look_putl, if_neg (by decide)]; exact h5) (by omega) rfl ?_
  repeat (first | refine o_mov rfl ?_ | refine o_minmax2 rfl rfl rfl ?_)
  refine o_store (sp := 5) (cs := [.int .i64 m]) rfl rfl rfl rfl (by rw [look_putl, if_neg (by decide), look_putl, if_neg (by decide)]; exact h5) rfl rfl ?_
  repeat (first | refine z_seq ?_ | refine z_region rfl ?_ | refine o_nil ?_ | refine u_seq ?_)
  refine o_loadm (sp := 4) (cs := [.int .i64 (IntKind.wrap .i64 (n + 1))]) rfl (by rw [look_putl, if_neg (by decide), look_putl, if_pos rfl]; rfl) (by omega) rfl ?_
  rw [e1]
  have fin : ∀ l', ¬ (n + 1 > 256 ∨ d > 16) → RoundQ 7 7 (Left (fun i => i < 8) (I86 (l86 y)) J86 H (stepM (n, m) d x)) .normal
      (st 25 l' (putl 5 (5, .cells [.int .i64 (deepM m d)]) (putl 4 (4, .cells [.int .i64 (n + 1)]) (putl 7 (7, .loop .busy none 25 (tmOf (l86 y)) [10, 11] ca86 cb86 (6, 6)) H.heap))) H.next H.clk) := fun l' hn => by
    refine ⟨25, tmOf (l86 y), [10, 11], ca86, cb86, (6, 6), ?_, none, rfl, ⟨Nat.le_refl _, Nat.le_refl _, fun i hi _ => ?_⟩, ?_⟩
    · show Am.look 7 (putl 5 _ (putl 4 _ (putl 7 _ H.heap))) = _
      rw [look_putl, if_neg (by decide), look_putl, if_neg (by decide), look_putl, if_pos rfl]
    · show Am.look i (putl 7 _ (putl 5 _ (putl 4 _ (putl 7 _ H.heap)))) = _
      rw [look_putl, if_neg (by omega), look_putl, if_neg (by omega), look_putl, if_neg (by omega), look_putl, if_neg (by omega)]
    · unfold stepM
      rw [if_neg hn]
      refine ⟨rfl, nx, by simp only; omega, ?_, ?_, ?_, ?_, ?_, ?_, ?_⟩
      · show Am.look 7 (putl 7 _ _) = _
        rw [look_putl, if_pos rfl]; rfl
      all_goals
        show Am.look _ (putl 7 _ (putl 5 _ (putl 4 _ (putl 7 _ H.heap)))) = _
        rw [look_putl, if_neg (by decide)]
      · rw [look_putl, if_neg (by decide), look_putl, if_neg (by decide), look_putl, if_neg (by decide)]; exact h6
      · rw [look_putl, if_neg (by decide), look_putl, if_pos rfl]
      · rw [look_putl, if_pos rfl]
      · rw [look_putl, if_neg (by decide), look_putl, if_neg (by decide), look_putl, if_neg (by decide)]; exact h1
      · rw [look_putl, if_neg (by decide), look_putl, if_neg (by decide), look_putl, if_neg (by decide)]; exact h2
      · rw [look_putl, if_neg (by decide), look_putl, if_neg (by decide), look_putl, if_neg (by decide)]; exact h3
  have stop : ∀ l', (n + 1 > 256 ∨ d > 16) → RoundQ 7 7 (Left (fun i => i < 8) (I86 (l86 y)) J86 H (stepM (n, m) d x)) .ret
      (st 25 l' (putl 3 (3, .cells [.bool false]) (putl 2 (2, .cells [.int .i64 0]) (putl 1 (1, .cells [.int .i64 0]) (putl 5 (5, .cells [.int .i64 (deepM m d)]) (putl 4 (4, .cells [.int .i64 (n + 1)]) (putl 7 (7, .loop .busy none 25 (tmOf (l86 y)) [10, 11] ca86 cb86 (6, 6)) H.heap)))))) H.next H.clk) := fun l' hn => by
    refine ⟨25, tmOf (l86 y), [10, 11], ca86, cb86, (6, 6), ?_, some .ret, rfl, ⟨Nat.le_refl _, Nat.le_refl _, fun i hi _ => ?_⟩, ?_⟩
    · show Am.look 7 (putl 3 _ (putl 2 _ (putl 1 _ (putl 5 _ (putl 4 _ (putl 7 _ H.heap)))))) = _
      rw [look_putl, if_neg (by decide), look_putl, if_neg (by decide), look_putl, if_neg (by decide), look_putl, if_neg (by decide), look_putl, if_neg (by decide), look_putl, if_pos rfl]
    · show Am.look i (putl 7 _ (putl 3 _ (putl 2 _ (putl 1 _ (putl 5 _ (putl 4 _ (putl 7 _ H.heap))))))) = _
      rw [look_putl, if_neg (by omega), look_putl, if_neg (by omega), look_putl, if_neg (by omega), look_putl, if_neg (by omega), look_putl, if_neg (by omega), look_putl, if_neg (by omega), look_putl, if_neg (by omega)]
    · unfold stepM
      rw [if_pos hn]
      refine ⟨rfl, nx, ⟨tmOf (l86 y), ?_⟩, ?_, ?_, ?_, ?_⟩
      · show Am.look 7 (putl 7 _ _) = _
        rw [look_putl, if_pos rfl]; rfl
      all_goals
        show Am.look _ (putl 7 _ (putl 3 _ (putl 2 _ (putl 1 _ (putl 5 _ (putl 4 _ (putl 7 _ H.heap))))))) = _
        rw [look_putl, if_neg (by decide)]
      · rw [look_putl, if_neg (by decide), look_putl, if_neg (by decide), look_putl, if_neg (by decide), look_putl, if_neg (by decide), look_putl, if_neg (by decide), look_putl, if_neg (by decide)]; exact h6
      · rw [look_putl, if_neg (by decide), look_putl, if_neg (by decide), look_putl, if_pos rfl]
      · rw [look_putl, if_neg (by decide), look_putl, if_pos rfl]
      · rw [look_putl, if_pos rfl]
  refine o_cmp rfl rfl rfl (fun hg => ?_) fun hg => ?_
  · have hg := of_decide_eq_true hg
    repeat (first | refine z_seq ?_ | refine z_region rfl ?_ | refine o_nil ?_ | refine u_seq ?_ | refine z_ct rfl ?_ | refine o_gn rfl rfl ?_ | refine o_mov rfl ?_ | refine o_pickt rfl rfl ?_)
    refine o_store (sp := 1) (cs := [.int .i64 0]) rfl rfl rfl rfl (by rw [look_putl, if_neg (by decide), look_putl, if_neg (by decide), look_putl, if_neg (by decide)]; exact h1) rfl rfl ?_
    refine o_store (sp := 2) (cs := [.int .i64 0]) rfl rfl rfl rfl (by rw [look_putl, if_neg (by decide), look_putl, if_neg (by decide), look_putl, if_neg (by decide), look_putl, if_neg (by decide)]; exact h2) rfl rfl ?_
    refine o_store (sp := 3) (cs := [.bool false]) rfl rfl rfl rfl (by rw [look_putl, if_neg (by decide), look_putl, if_neg (by decide), look_putl, if_neg (by decide), look_putl, if_neg (by decide), look_putl, if_neg (by decide)]; exact h3) rfl rfl ?_
    repeat (first | refine o_nil ?_ | refine u_seq ?_ | refine z_ret ?_ | refine u_ret_blk ?_)
    exact u_end (stop _ (.inl hg))
  · have hg := of_decide_eq_false hg
    repeat (first | refine o_gy rfl ?_ | refine o_mov rfl ?_)
    refine o_cmp rfl rfl rfl (fun hd => ?_) fun hd => ?_
    · have hd := of_decide_eq_true hd
      repeat (first | refine z_seq ?_ | refine z_region rfl ?_ | refine o_nil ?_ | refine u_seq ?_ | refine z_ct rfl ?_ | refine o_pickf rfl rfl ?_)
      refine o_store (sp := 1) (cs := [.int .i64 0]) rfl rfl rfl rfl (by rw [look_putl, if_neg (by decide), look_putl, if_neg (by decide), look_putl, if_neg (by decide)]; exact h1) rfl rfl ?_
      refine o_store (sp := 2) (cs := [.int .i64 0]) rfl rfl rfl rfl (by rw [look_putl, if_neg (by decide), look_putl, if_neg (by decide), look_putl, if_neg (by decide), look_putl, if_neg (by decide)]; exact h2) rfl rfl ?_
      refine o_store (sp := 3) (cs := [.bool false]) rfl rfl rfl rfl (by rw [look_putl, if_neg (by decide), look_putl, if_neg (by decide), look_putl, if_neg (by decide), look_putl, if_neg (by decide), look_putl, if_neg (by decide)]; exact h3) rfl rfl ?_
      repeat (first | refine o_nil ?_ | refine u_seq ?_ | refine z_ret ?_ | refine u_ret_blk ?_)
      exact u_end (stop _ (.inr hd))
    · have hd := of_decide_eq_false hd
      repeat (first | refine o_nil ?_ | refine u_seq ?_ | refine u_blk ?_ | refine z_skip ?_ | refine z_cf rfl ?_ | refine o_pickf rfl rfl ?_)
      exact u_end (fin _ fun hx => hx.elim hg hd)

end Go.Proofs.Ytofkihmckookjaa
