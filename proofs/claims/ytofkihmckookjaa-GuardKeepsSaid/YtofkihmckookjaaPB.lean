/-
  P3, P7a, W1, P7, P8, P9, P10 in one text.
-/
import Derived.Test.YtofkihmckookjaaPA
import Derived.Test.YtofkihmckookjaaCA
import Derived.Test.YtofkihmckookjaaA9
import Derived.Test.YtofkihmckookjaaQD
namespace Go.Proofs.Ytofkihmckookjaa
open Go Go.Am

-- pneumatic/guard.combinations
def ic52 : IC := .seq (.region [⟨(some 1), .box (.t 0), none⟩,
    ⟨(some 2), .mov (.c (.nilf)), none⟩] none)
  (.seq (.region [⟨(some 3), .mkfn 80 [] [(.t 1)], none⟩,
    ⟨(some 2), .mov (.t 3), none⟩] none)
  (.ret))
theorem fn52 : env0.fn 52 = some ⟨4, ic52, [.t 2]⟩ := by kernel_rfl


theorem comb52 (cs : List (List Int)) : PF Try.prog 52 [css cs] (.fn 80 [] [.vptr [css cs]]) := by
  refine PF_of_Z env0_ok fn52 [(0, css cs)] (by show 1 ≤ 4; decide) rfl fun w0 N0 => ?_
  unfold ic52
  repeat (first | refine z_seq ?_ | refine z_region rfl ?_ | refine o_nil ?_ | refine u_seq ?_ | refine z_ret ?_ | refine o_mov rfl ?_ | refine o_box rfl rfl ?_ | refine o_mkfn rfl rfl ?_)
  exact u_end ⟨.inr rfl, _, rfl, rfl⟩

noncomputable def ca34_0 : Code := match env0.fn 34 with
  | some i => ((rangesOf i.ic)[0]?.getD (.skip, .skip)).1
  | none => .skip

noncomputable def cb34_0 : Code := match env0.fn 34 with
  | some i => ((rangesOf i.ic)[0]?.getD (.skip, .skip)).2
  | none => .skip

def asg34_0 : IC := .region [⟨(some 8), .mov (.t 20), none⟩] none

def rb34_0 : IC := .block 1 (.seq (.region [⟨(some 21), .faddr 0 (.t 2), none⟩,
    ⟨(some 22), .load none (.t 21), none⟩,
    ⟨(some 23), .mov (.t 8), none⟩,
    ⟨(some 24), .call (.c (.fn 53 [] [])) [(.t 22), (.t 23)], none⟩,
    ⟨(some 25), .len false (.t 24), none⟩,
    ⟨(some 26), .bin .eql (.t 25) (.c (.int .i64 0)), none⟩] none)
  (.cond (.t 26) (.region [⟨(some 27), .load none (.t 7), none⟩,
    ⟨(some 28), .mov (.t 8), none⟩,
    ⟨(some 29), .bslice 1 1 [.nils] [(0, 1, (.t 28))], none⟩,
    ⟨(some 30), .append 1 24 [.nils] (.t 27) (.t 29), none⟩,
    ⟨none, .store 1 (.t 7) (.t 30), none⟩] none)
  (.skip)))

-- pneumatic/guard.Places
noncomputable def ic34 : IC := .seq (.region [⟨(some 2), .box (.t 0), none⟩,
    ⟨(some 4), .mov (.c (.nils)), none⟩,
    ⟨(some 5), .mov (.c (.int .i64 0)), none⟩] none)
  (.seq (.seq (.region [⟨(some 9), .load (some 1) (.t 2), none⟩,
    ⟨(some 10), .mov (.t 1), none⟩,
    ⟨(some 11), .call (.c (.fn 28 [] [])) [(.t 9), (.t 10)], none⟩,
    ⟨(some 6), .mov (.t 11), none⟩] none)
  (.seq (.region [⟨(some 12), .mov (.t 6), none⟩,
    ⟨(some 13), .bin .neq (.t 12) (.c (.int .i64 0)), none⟩] none)
  (.cond (.t 13) (.seq (.region [⟨(some 14), .mov (.t 6), none⟩,
    ⟨(some 4), .mov (.c (.nils)), none⟩,
    ⟨(some 5), .mov (.t 14), none⟩] none)
  (.ret))
  (.skip))))
  (.seq (.region [⟨(some 7), .alloc [.nils], none⟩] none)
  (.seq (.seq (.region [⟨(some 15), .bslice 1 2 [.int .i64 0, .int .i64 0] [(0, 1, (.c (.int .i64 0))), (1, 1, (.c (.int .i64 2)))], none⟩,
    ⟨(some 16), .bslice 1 1 [.nils] [(0, 1, (.t 15))], none⟩,
    ⟨(some 17), .mov (.t 1), none⟩,
    ⟨(some 18), .call (.c (.fn 64 [] [])) [(.t 16), (.t 17)], none⟩,
    ⟨(some 19), .call (.c (.fn 52 [] [])) [(.t 18)], none⟩] none)
  (.block 0 (.rangeFunc (.t 19) [20] ca34_0 cb34_0 asg34_0 rb34_0)))
  (.seq (.region [⟨(some 31), .load none (.t 7), none⟩,
    ⟨(some 4), .mov (.t 31), none⟩,
    ⟨(some 5), .mov (.c (.int .i64 0)), none⟩] none)
  (.ret)))))
theorem fn34 : env0.fn 34 = some ⟨32, ic34, [.t 4, .t 5]⟩ := by kernel_rfl


/-- The positions that are left of some. -/
def okL (l : List Ex) (s : List (List Int)) : List (List Int) := s.filter fun p => (trues l p).isEmpty

def stepA (s : List (List Int)) (p : List Int) : List (List Int) ⊕ Unit := .inl (s ++ [p])

theorem fold_stepA : ∀ (C s : List (List Int)), foldS stepA C s = .inl (s ++ C)
  | [], s => by rw [foldS, List.append_nil]
  | c :: C, s => by
    rw [foldS]
    simp only [stepA]
    rw [fold_stepA C]
    simp

theorem along_stepA {m k : Nat} : ∀ (C s : List (List Int)), (∀ p ∈ C, p.length = m) → s.length + C.length ≤ k → Along stepA (fun s p => s.length < k ∧ p.length = m) C s
  | [], _, _, _ => trivial
  | c :: C, s, h, hk => by
    rw [List.length_cons] at hk
    refine ⟨⟨by omega, h c (List.mem_cons_self ..)⟩, fun s' hs => ?_⟩
    injection hs with hs
    subst hs
    exact along_stepA C _ (fun p hp => h p (List.mem_cons_of_mem _ hp)) (by rw [List.length_append]; show s.length + 1 + _ ≤ _; omega)

structure I34 (l : List Ex) (ltm : List (Nat × AV)) (s : List (List Int)) (H : HS) : Prop where
  nx : 4 ≤ H.next
  h3 : Am.look 3 H.heap = some (2, .loop .ready none 32 (tmOf ltm) [20] ca34_0 cb34_0 (2, 1))
  h2 : Am.look 2 H.heap = some (1, .deferred)
  h0 : ∃ sp, Am.look 0 H.heap = some (0, .cells [.ms 1 sp 1 0 (okL l s).length none]) ∧ Am.look 1 H.heap = some (sp, .cells (rowI (okL l s)))

theorem local34 (l : List Ex) (ltm : List (Nat × AV)) : Local (fun i => i < 4) (I34 l ltm) :=
  ⟨fun s H h i hi => Nat.lt_of_lt_of_le hi h.nx, fun s H H' h hn hl =>
    ⟨Nat.le_trans h.nx hn, (hl 3 (by decide)).trans h.h3, (hl 2 (by decide)).trans h.h2, let ⟨sp, a, b⟩ := h.h0; ⟨sp, (hl 0 (by decide)).trans a, (hl 1 (by decide)).trans b⟩⟩⟩

def l34 (l : List Ex) (C : AV) : List (Nat × AV) := [(2, .vptr [.vs (cXs l)]), (7, .mptr 0 0 0), (19, C)]

set_option maxHeartbeats 2000000 in
theorem yield34 {w0 : World} {N0 : Nat} {l : List Ex} {n : Nat} (hsl : ∀ y ∈ l, Slim y) (hg : guardC l n = 0) (C : AV) (ha : Com Try.prog ca34_0 asg34_0) (hb : Com Try.prog cb34_0 rb34_0) (s : List (List Int)) (p : List Int) (H : HS) (hp : s.length < 600000 ∧ p.length = n) (h : I34 l (l34 l C) s H) :
    CT Try.prog w0 N0 (.yield 3 2) [vsI p] H (Left (fun i => i < 4) (I34 l (l34 l C)) (fun (_ : Unit) _ => False) H (stepA s p)) := by
  obtain ⟨nx, h3, h2, sp, h0, h1⟩ := h
  have h53 := whichG hsl hg hp.2
  have hfl : (okL l s).length ≤ s.length := List.length_filter_le ..
  have hok : okL l (s ++ [p]) = okL l s ++ (if (trues l p).isEmpty then [p] else []) := by
    unfold okL
    rw [List.filter_append]
    simp [List.filter_cons]
  have hrl : (rowI (okL l s)).length = (okL l s).length := List.length_map ..
  refine ct_yield (l0 := (20, vsI p) :: l34 l C) h3 ha hb rfl (by decide) rfl ?_
  unfold asg34_0
  repeat (first | refine z_region rfl ?_ | refine o_nil ?_ | refine o_mov rfl ?_)
  refine u_end ⟨rfl, _, rfl, ?_⟩
  unfold rb34_0 l34
  repeat (first | refine z_seq ?_ | refine z_region rfl ?_ | refine z_block ?_ | refine o_mov rfl ?_ | refine o_load rfl rfl ?_ | refine o_faddrv rfl rfl rfl ?_)
  refine o_call rfl rfl h53 (fun h => Bool.noConfusion (show false = true from h)) ?_
  repeat (first | refine o_len rfl rfl ?_)
  refine o_cmp rfl rfl rfl (fun h => ?_) fun h => ?_
  · rw [empty_len] at h
    rw [if_pos h] at hok
    repeat (first | refine z_region rfl ?_ | refine o_nil ?_ | refine u_seq ?_ | refine z_ct rfl ?_)
    refine o_loadm (sp := 0) rfl (by (repeat (first | rw [look_putl, if_pos rfl] | rw [look_putl, if_neg (by decide)] | rw [look_dropl, if_neg (by decide)])); first | rfl | assumption) (by omega) rfl ?_
    refine o_mov rfl (o_fsl [[vsI p]] rfl rfl rfl rfl ?_)
    refine o_append_ms [[vsI p]] rfl rfl rfl (fun h => Nat.noConfusion h) rfl (by decide) (by (repeat (first | rw [look_putl, if_pos rfl] | rw [look_putl, if_neg (by decide)] | rw [look_dropl, if_neg (by decide)])); first | rfl | assumption) (by rw [hrl, Nat.mul_one]) (by show _ + 1 ≤ _; omega) ?_
    refine o_store (sp := 0) rfl rfl rfl rfl (by (repeat (first | rw [look_putl, if_pos rfl] | rw [look_putl, if_neg (by decide)] | rw [look_dropl, if_neg (by decide)])); first | rfl | assumption) rfl rfl ?_
    repeat (first | refine o_nil ?_ | refine u_blk ?_)
    refine u_end ⟨32, tmOf (l34 l C), [20], ca34_0, cb34_0, (2, 1), ?_, none, rfl, ⟨Nat.le_refl _, Nat.le_succ _, fun i hi _ => ?_⟩, rfl, ⟨nx, ?_, ?_, H.clk, ?_, ?_⟩⟩
    · show Am.look 3 (putl 0 _ (putl 1 _ (putl 3 _ H.heap))) = _
      exact (by (repeat (first | rw [look_putl, if_pos rfl] | rw [look_putl, if_neg (by decide)] | rw [look_dropl, if_neg (by decide)])); first | rfl | assumption)
    · show Am.look i (putl 3 _ (putl 0 _ (putl 1 _ (putl 3 _ H.heap)))) = _
      rw [look_putl, if_neg (by omega), look_putl, if_neg (by omega), look_putl, if_neg (by omega), look_putl, if_neg (by omega)]
    · show Am.look 3 (putl 3 _ _) = _
      rw [look_putl, if_pos rfl]; rfl
    · show Am.look 2 (putl 3 _ (putl 0 _ (putl 1 _ (putl 3 _ H.heap)))) = _
      exact (by (repeat (first | rw [look_putl, if_pos rfl] | rw [look_putl, if_neg (by decide)] | rw [look_dropl, if_neg (by decide)])); first | rfl | assumption)
    · show Am.look 0 (putl 3 _ (putl 0 _ (putl 1 _ (putl 3 _ H.heap)))) = _
      rw [hok, List.length_append]
      exact (by (repeat (first | rw [look_putl, if_pos rfl] | rw [look_putl, if_neg (by decide)] | rw [look_dropl, if_neg (by decide)])); first | rfl | assumption)
    · show Am.look 1 (putl 3 _ (putl 0 _ (putl 1 _ (putl 3 _ H.heap)))) = _
      rw [hok, rowI_snoc]
      exact (by (repeat (first | rw [look_putl, if_pos rfl] | rw [look_putl, if_neg (by decide)] | rw [look_dropl, if_neg (by decide)])); first | rfl | assumption)
  · rw [empty_len] at h
    rw [if_neg (by rw [h]; simp), List.append_nil] at hok
    repeat (first | refine o_nil ?_ | refine u_seq ?_ | refine u_blk ?_ | refine z_skip ?_ | refine z_cf rfl ?_)
    refine u_end ⟨32, tmOf (l34 l C), [20], ca34_0, cb34_0, (2, 1), ?_, none, rfl, ⟨Nat.le_refl _, Nat.le_refl _, fun i hi _ => ?_⟩, rfl, ⟨nx, ?_, ?_, sp, ?_, ?_⟩⟩
    · show Am.look 3 (putl 3 _ H.heap) = _
      exact (by (repeat (first | rw [look_putl, if_pos rfl] | rw [look_putl, if_neg (by decide)] | rw [look_dropl, if_neg (by decide)])); first | rfl | assumption)
    · show Am.look i (putl 3 _ (putl 3 _ H.heap)) = _
      rw [look_putl, if_neg (by omega), look_putl, if_neg (by omega)]
    · show Am.look 3 (putl 3 _ _) = _
      rw [look_putl, if_pos rfl]; rfl
    · show Am.look 2 (putl 3 _ (putl 3 _ H.heap)) = _
      exact (by (repeat (first | rw [look_putl, if_pos rfl] | rw [look_putl, if_neg (by decide)] | rw [look_dropl, if_neg (by decide)])); first | rfl | assumption)
    · show Am.look 0 (putl 3 _ (putl 3 _ H.heap)) = _
      rw [hok]
      exact (by (repeat (first | rw [look_putl, if_pos rfl] | rw [look_putl, if_neg (by decide)] | rw [look_dropl, if_neg (by decide)])); first | rfl | assumption)
    · show Am.look 1 (putl 3 _ (putl 3 _ H.heap)) = _
      rw [hok]
      exact (by (repeat (first | rw [look_putl, if_pos rfl] | rw [look_putl, if_neg (by decide)] | rw [look_dropl, if_neg (by decide)])); first | rfl | assumption)

set_option maxHeartbeats 2000000 in
theorem places34 (l : List Ex) (hsl : ∀ y ∈ l, Slim y) (n : Int) (h4 : guardC l n = 0 → n ≤ 4) : PF Try.prog 34 [.agg [.vs (cXs l)], .int .i64 n] (placesV l n) := by
  have h28 := gcheck28 l hsl n
  refine PF_of_Z env0_ok fn34 [(0, .agg [.vs (cXs l)]), (1, .int .i64 n)] (by show 2 ≤ 32; decide) rfl fun w0 N0 => ?_
  unfold ic34 placesV
  repeat (first | refine z_seq ?_ | refine z_region rfl ?_ | refine o_nil ?_ | refine u_seq ?_ | refine o_mov rfl ?_ | refine o_loadn rfl rfl rfl rfl ?_ | refine o_box rfl rfl ?_)
  refine o_call rfl rfl h28 (fun h => Bool.noConfusion (show false = true from h)) ?_
  by_cases hg : guardC l n = 0
  · rw [if_pos hg, hg]
    obtain ⟨g1, g2, g3, g4⟩ := guardC_ok hg
    have h4 := h4 hg
    obtain ⟨m, rfl⟩ : ∃ m : Nat, n = (m : Int) := ⟨n.toNat, by omega⟩
    have h64 := rep64a (n := m) (by omega) (by omega)
    have h52 := comb52 (List.replicate m [0, 2])
    rw [Int.toNat_natCast]
    have hrow := combs_row (List.replicate m [0, 2])
    have hlen := combs_len (List.replicate m [0, 2]) (fun c hc => by obtain rfl := List.eq_of_mem_replicate hc; decide) (by rw [List.length_replicate]; omega)
    rw [List.length_replicate] at hrow
    repeat (first | refine z_seq ?_ | refine o_nil ?_ | refine u_seq ?_ | refine z_region rfl ?_ | refine o_mov rfl ?_ | refine o_cmpf rfl rfl rfl ?_ | refine z_cf rfl ?_ | refine z_skip ?_ | refine o_alloc ?_)
    refine o_fsl [[.int .i64 0], [.int .i64 2]] rfl rfl rfl rfl ?_
    refine o_fsl [[vsI [0, 2]]] rfl rfl rfl rfl ?_
    refine o_mov rfl ?_
    refine o_call rfl rfl h64 (fun h => Bool.noConfusion (show false = true from h)) ?_
    refine o_call rfl rfl h52 (fun h => Bool.noConfusion (show false = true from h)) ?_
    refine o_nil (u_seq (z_block ?_))
    refine z_renw [(some (1, 1), [.ms 1 0 1 0 0 none]), (none, [])] [(0, 0, [.vs (cXs l)])] (l34 l (.fn 80 [] [.vptr [css (List.replicate m [0, 2])]])) rfl (.cons rfl rfl .nil) (.cons rfl (.cons (.grow rfl) .nil) (.new .nil)) (.cons rfl (.fptr rfl rfl) (.cons rfl (.mptr rfl) (.cons rfl (.same rfl) .nil))) ?_
    refine z_range (.inl rfl) rfl fun ha hb => (range80 (local34 l _) (fun s p H hp h => yield34 hsl hg _ ha hb s p H hp h) (List.replicate m [0, 2]) (by rw [List.length_replicate]; omega) (fun c hc => by obtain rfl := List.eq_of_mem_replicate hc; decide) ⟨_, _, _⟩ [] ⟨Nat.le_refl _, rfl, rfl, 0, rfl, rfl⟩ (along_stepA _ _ hrow (by show 0 + _ ≤ _; omega))).mono fun v H2 hF => ?_
    obtain ⟨hK, hF⟩ := hF
    rw [fold_stepA, List.nil_append] at hF
    obtain ⟨nx, h3, h2, sp, h0, h1⟩ := hF
    refine ⟨_, _, .normal, _, _, _, _, _, _, h3, by simp, rfl, fun z hz => ?_, ?_⟩
    · obtain rfl := List.mem_singleton.1 hz
      exact (by (repeat (first | rw [look_putl, if_pos rfl] | rw [look_putl, if_neg (by decide)] | rw [look_dropl, if_neg (by decide)])); first | rfl | assumption)
    · repeat (first | refine z_seq ?_ | refine u_seq ?_ | refine u_blk ?_ | refine z_region rfl ?_)
      refine o_loadm (sp := 0) rfl (by (repeat (first | rw [look_putl, if_pos rfl] | rw [look_putl, if_neg (by decide)] | rw [look_dropl, if_neg (by decide)])); first | rfl | assumption) (by omega) rfl ?_
      repeat (first | refine o_nil ?_ | refine u_seq ?_ | refine z_ret ?_ | refine o_mov rfl ?_)
      refine u_end ⟨.inr rfl, _, rfl, ?_⟩
      refine congrArg AV.tup (pair_eq (view_row (d := 2) (okL l (combs (List.replicate m [0, 2]))) ?_) rfl)
      show Am.look 1 (dropl 2 (dropl 3 H2.heap)) = _
      exact (by (repeat (first | rw [look_putl, if_pos rfl] | rw [look_putl, if_neg (by decide)] | rw [look_dropl, if_neg (by decide)])); first | rfl | assumption)
  · rw [if_neg hg]
    repeat (first | refine z_seq ?_ | refine z_region rfl ?_ | refine o_nil ?_ | refine u_seq ?_ | refine o_mov rfl ?_)
    refine o_cmp rfl rfl rfl (fun h => ?_) fun h => absurd (by simpa using h) hg
    repeat (first | refine z_seq ?_ | refine z_region rfl ?_ | refine o_nil ?_ | refine u_seq ?_ | refine z_ct rfl ?_ | refine z_ret ?_ | refine u_ret_seq ?_ | refine o_mov rfl ?_)
    exact u_end ⟨.inr rfl, _, rfl, rfl⟩

end Go.Proofs.Ytofkihmckookjaa
namespace Go.Proofs.Ytofkihmckookjaa
open Go Go.Am

theorem any_lt {gone : List Int} {b : Nat} (h : ∀ x ∈ gone, x < (b : Int)) : gone.any (· == (b : Int)) = false := by
  rw [List.any_eq_false]
  intro x hx hb
  have := h x hx
  have : x = (b : Int) := by simpa using hb
  omega

theorem woL_ge {gone : List Int} : ∀ (l : List Ex) (b : Nat), (∀ x ∈ gone, x < (b : Int)) → woL gone b l = l
  | [], _, _ => rfl
  | y :: l, b, h => by
    rw [woL, any_lt h, if_neg (by decide), woL_ge l (b + 1) fun x hx => by have := h x hx; omega]

theorem woL_split {gone : List Int} : ∀ (l : List Ex) (b i : Nat), (∀ x ∈ gone, x < ((b + i : Nat) : Int)) → woL gone b l = woL gone b (l.take i) ++ l.drop i
  | [], b, i, _ => by simp [woL]
  | y :: l, b, 0, h => by rw [List.take_zero, List.drop_zero, woL_ge (y :: l) b h]; rfl
  | y :: l, b, i + 1, h => by
    rw [List.take_succ_cons, List.drop_succ_cons, woL, woL, woL_split l (b + 1) i fun x hx => by have := h x hx; omega]
    split <;> simp

theorem woL_cut {gone : List Int} : ∀ (l : List Ex) (b i : Nat), (∀ x ∈ gone, x < ((b + i : Nat) : Int)) → i < l.length → woL (gone ++ [((b + i : Nat) : Int)]) b l = woL gone b (l.take i) ++ l.drop (i + 1)
  | [], b, i, _, hi => by simp at hi
  | y :: l, b, 0, h, _ => by
    show woL (gone ++ [((b : Nat) : Int)]) b (y :: l) = l
    rw [woL, if_pos (by simp), woL_ge]
    · intro x hx
      rcases List.mem_append.1 hx with hx | hx
      · have := h x hx; omega
      · obtain rfl := List.mem_singleton.1 hx; omega
  | y :: l, b, i + 1, h, hi => by
    have e : (gone ++ [((b + (i + 1) : Nat) : Int)]).any (· == (b : Int)) = gone.any (· == (b : Int)) := by
      have : (((b + (i + 1) : Nat) : Int) == (b : Int)) = false := by rw [beq_eq_false_iff_ne]; omega
      rw [List.any_append, List.any_cons, List.any_nil, this]
      cases gone.any (· == (b : Int)) <;> rfl
    rw [List.take_succ_cons, List.drop_succ_cons, woL, woL, e, show b + (i + 1) = b + 1 + i from by omega, woL_cut l (b + 1) i (fun x hx => by have := h x hx; omega) (by simpa using hi)]
    split <;> simp

theorem woL_same {g1 g2 : List Int} : ∀ (l : List Ex) (b : Nat), (∀ j, b ≤ j → j < b + l.length → g1.any (· == (j : Int)) = g2.any (· == (j : Int))) → woL g1 b l = woL g2 b l
  | [], _, _ => rfl
  | y :: l, b, h => by
    rw [woL, woL, h b (Nat.le_refl _) (by rw [List.length_cons]; omega), woL_same l (b + 1) fun j h1 h2 => h j (by omega) (by rw [List.length_cons]; omega)]

theorem idxs_ge (f : Ex → Bool) : ∀ (b : Nat) (l : List Ex), ∀ z ∈ idxs f b l, (b : Int) ≤ z
  | _, [], z, h => by cases h
  | b, y :: l, z, h => by
    rw [idxs] at h
    split at h
    · rcases List.mem_cons.1 h with rfl | h
      · omega
      · have := idxs_ge f (b + 1) l z h; omega
    · have := idxs_ge f (b + 1) l z h; omega

theorem idxs_empty (f : Ex → Bool) : ∀ (b : Nat) (l : List Ex), (idxs f b l).isEmpty = !(l.any f)
  | _, [] => rfl
  | b, y :: l => by
    rw [idxs, List.any_cons]
    cases h : f y with
    | true => rfl
    | false => rw [if_neg (by decide), idxs_empty f (b + 1) l]; rfl

theorem idxs_one (f : Ex → Bool) (x : Ex) (D : List Ex) : ∀ (K : List Ex) (b : Nat), idxs f b (K ++ x :: D) = [((b + K.length : Nat) : Int)] ↔ (K.any f = false ∧ f x = true ∧ D.any f = false)
  | [], b => by
    rw [List.nil_append, idxs]
    cases h : f x with
    | true =>
      rw [if_pos rfl]
      have e := idxs_empty f (b + 1) D
      constructor
      · intro hh
        have : idxs f (b + 1) D = [] := by simpa using hh
        rw [this] at e
        refine ⟨rfl, rfl, ?_⟩
        cases hd : D.any f with
        | true => rw [hd] at e; cases e
        | false => rfl
      · rintro ⟨_, _, hd⟩
        rw [hd] at e
        have : idxs f (b + 1) D = [] := by simpa using e
        rw [this]; rfl
    | false =>
      rw [if_neg (by decide)]
      constructor
      · intro hh
        have := idxs_ge f (b + 1) D ((b + ([] : List Ex).length : Nat) : Int) (by rw [hh]; exact List.mem_singleton.2 rfl)
        simp only [List.length_nil] at this
        omega
      · rintro ⟨_, h, _⟩; cases h
  | k :: K, b => by
    rw [List.cons_append, idxs, List.any_cons]
    have ih := idxs_one f x D K (b + 1)
    rw [show b + 1 + K.length = b + (k :: K).length from by rw [List.length_cons]; omega] at ih
    cases h : f k with
    | true =>
      rw [if_pos rfl]
      constructor
      · intro hh
        simp only [List.cons.injEq, List.length_cons] at hh
        omega
      · rintro ⟨h, _⟩; cases h
    | false =>
      rw [if_neg (by decide), Bool.false_or]
      exact ih

/-- Some expression forbids what no other forbids. -/
def needB (C : List (List Int)) (k : List Ex) (a : Nat) : Bool := C.any fun p => decide (trues k p = [(a : Int)])

theorem alike_cut {C : List (List Int)} {l K D : List Ex} {x : Ex} (h : alikeB C l (K ++ x :: D) = true) : alikeB C l (K ++ D) = !(needB C (K ++ x :: D) K.length) := by
  unfold alikeB at *
  unfold needB
  rw [List.all_eq_true] at h
  rw [Bool.eq_iff_iff, List.all_eq_true, Bool.not_eq_true', List.any_eq_false]
  refine forall_congr' fun p => forall_congr' fun hp => ?_
  have hp := h p hp
  unfold trues at *
  have h1 := idxs_one (holdB (sw p)) x D K 0
  rw [Nat.zero_add] at h1
  rw [decide_eq_true_eq, h1]
  rw [idxs_empty, idxs_empty, List.any_append, List.any_cons] at hp
  rw [idxs_empty, idxs_empty, List.any_append]
  clear h h1
  generalize List.any l (holdB (sw p)) = a at *
  generalize List.any K (holdB (sw p)) = b at *
  generalize List.any D (holdB (sw p)) = c at *
  generalize holdB (sw p) x = d at *
  revert hp
  cases a <;> cases b <;> cases c <;> cases d <;> decide

/-- What is left at some step. -/
def kp (C : List (List Int)) (l : List Ex) (i : Nat) : List Ex := woL (redF C l i) 0 l

theorem redF_lt (C : List (List Int)) (l : List Ex) : ∀ i, ∀ x ∈ redF C l i, x < (i : Int)
  | 0, x, h => by cases h
  | i + 1, x, h => by
    rw [redF] at h
    split at h
    · rcases List.mem_append.1 h with h | h
      · have := redF_lt C l i x h; omega
      · obtain rfl := List.mem_singleton.1 h; omega
    · have := redF_lt C l i x h; omega

/-- The expressions that are kept of the first ones. -/
def kh (C : List (List Int)) (l : List Ex) (i : Nat) : List Ex := woL (redF C l i) 0 (l.take i)

theorem kp_split (C : List (List Int)) (l : List Ex) (i : Nat) : kp C l i = kh C l i ++ l.drop i :=
  woL_split l 0 i fun x hx => by have := redF_lt C l i x hx; omega

theorem kp_cut (C : List (List Int)) (l : List Ex) (i : Nat) (hi : i < l.length) : woL (redF C l i ++ [(i : Int)]) 0 l = kh C l i ++ l.drop (i + 1) := by
  have := woL_cut (gone := redF C l i) l 0 i (fun x hx => by have := redF_lt C l i x hx; omega) hi
  rw [Nat.zero_add] at this
  exact this

theorem kp_alike (C : List (List Int)) (l : List Ex) : ∀ i, alikeB C l (kp C l i) = true
  | 0 => by
    unfold kp redF
    rw [woL_ge l 0 (fun x hx => by cases hx)]
    unfold alikeB
    simp
  | i + 1 => by
    unfold kp
    rw [redF]
    split
    · assumption
    · exact kp_alike C l i

theorem kh_step (C : List (List Int)) (l : List Ex) (i : Nat) (hi : i < l.length) : kh C l (i + 1) = kh C l i ++ (if alikeB C l (woL (redF C l i ++ [(i : Int)]) 0 l) = true then [] else [l[i]]) := by
  unfold kh
  rw [woL_take _ 0 l i hi, Nat.zero_add, redF]
  have hlt := redF_lt C l i
  split
  · rw [if_pos (by simp)]
    congr 1
    refine woL_same _ 0 fun j _ hj => ?_
    rw [List.length_take] at hj
    have : (((i : Nat) : Int) == (j : Int)) = false := by rw [beq_eq_false_iff_ne]; omega
    rw [List.any_append, List.any_cons, List.any_nil, this]
    cases (redF C l i).any (· == (j : Int)) <;> rfl
  · rw [any_lt hlt, if_neg (by decide)]

theorem kh_len (C : List (List Int)) (l : List Ex) : ∀ i, i ≤ l.length → (kh C l i).length + (redF C l i).length = i
  | 0, _ => by
    unfold kh
    rw [List.take_zero]
    rfl
  | i + 1, hi => by
    have ih := kh_len C l i (by omega)
    rw [kh_step C l i (by omega), redF]
    split
    · rw [List.length_append, List.length_append]
      show _ + 0 + (_ + 1) = _
      omega
    · rw [List.length_append]
      show _ + 1 + _ = _
      omega

/-- One step of guard.Redundant. -/
theorem red_step (C : List (List Int)) (l : List Ex) (i : Nat) (hi : i < l.length) : ∃ a, a + (redF C l i).length = i ∧ a < (kp C l i).length ∧
    redF C l (i + 1) = (if needB C (kp C l i) a = true then redF C l i else redF C l i ++ [(i : Int)]) ∧
    kp C l (i + 1) = (if needB C (kp C l i) a = true then kp C l i else (kp C l i).eraseIdx a) := by
  have hlen := kh_len C l i (by omega)
  have hsp := kp_split C l i
  rw [List.drop_eq_getElem_cons hi] at hsp
  have hal := kp_alike C l i
  rw [hsp] at hal
  have hc := alike_cut hal
  rw [← hsp] at hc
  have hcut := kp_cut C l i hi
  have hr : redF C l (i + 1) = if needB C (kp C l i) (kh C l i).length = true then redF C l i else redF C l i ++ [(i : Int)] := by
    rw [redF, hcut, hc]
    cases needB C (kp C l i) (kh C l i).length <;> rfl
  refine ⟨(kh C l i).length, hlen, ?_, hr, ?_⟩
  · rw [hsp, List.length_append, List.length_cons]; omega
  · show woL (redF C l (i + 1)) 0 l = _
    rw [hr]
    cases hn : needB C (kp C l i) (kh C l i).length with
    | true => rfl
    | false =>
      rw [if_neg (by decide), if_neg (by decide), hcut, hsp, List.eraseIdx_append_of_length_le (Nat.le_refl _), Nat.sub_self]
      rfl

end Go.Proofs.Ytofkihmckookjaa
namespace Go.Proofs.Ytofkihmckookjaa
open Go Go.Am

theorem flat_bools : ∀ l : List Bool, (l.map AV.bool) = (l.map fun b => ([.bool b] : List AV)).flatten
  | [] => rfl
  | b :: l => by simpa using flat_bools l

theorem sw_take {e : List Int} {i : Nat} (h : i < e.length) : (sw (e.take (i + 1))).map AV.bool = (sw (e.take i)).map AV.bool ++ [.bool (e[i] == 0), .bool (e[i] == 2)] := by
  rw [List.take_add_one, List.getElem?_eq_getElem h, sw_append, List.map_append]
  rfl

theorem idxs_len (f : Ex → Bool) : ∀ (i : Nat) (l : List Ex), (idxs f i l).length ≤ l.length
  | _, [] => Nat.le_refl _
  | i, y :: ys => by
    rw [idxs]
    have := idxs_len f (i + 1) ys
    split <;> simp only [List.length_cons] <;> omega

theorem idxs_take (f : Ex → Bool) : ∀ (b : Nat) (l : List Ex) (i : Nat) (h : i < l.length), idxs f b (l.take (i + 1)) = idxs f b (l.take i) ++ (if f l[i] = true then [((b + i : Nat) : Int)] else [])
  | b, x :: xs, 0, h => by
    rw [List.take_succ_cons, List.take_zero, List.take_zero, idxs, idxs, idxs]
    rfl
  | b, x :: xs, i + 1, h => by
    have := idxs_take f (b + 1) xs i (by simpa using h)
    rw [show b + 1 + i = b + (i + 1) from by omega] at this
    rw [List.take_succ_cons, List.take_succ_cons, idxs, idxs, this]
    split <;> simp

set_option maxHeartbeats 4000000 in
theorem which53n (l : List Ex) (hl : l.length ≤ 600) (e : List Int) (he : e.length ≤ 600) (hck : ∀ y ∈ l, checkR y (sw e).length = 0) (hsl : ∀ y ∈ l, Slim y) : PFn Try.prog 53 [.vs (cXs l), vsI e] (vsI (idxs (holdB (sw e)) 0 l)) := by
  have hcl : (cXs l).length = l.length := cXs_length l
  have hce : (e.map fun z => ([.int .i64 z] : List AV)).length = e.length := List.length_map ..
  refine PFn_of_Z env0_ok fn53 [(0, .vs (cXs l)), (1, vsI e)] (by show 2 ≤ 51; decide) rfl fun w0 N0 => ?_
  unfold ic53
  repeat (first | refine z_seq ?_ | refine z_region rfl ?_ | refine o_nil ?_ | refine u_seq ?_ | refine z_block ?_ | refine o_mov rfl ?_ | refine o_len rfl rfl ?_)
  refine z_grow 5 1 rfl ?_
  refine z_loop (fun mm S => ∃ i, mm = e.length - i ∧ i ≤ e.length ∧
      S = st 51 [(0, .vs (cXs l)), (13, vsI e), (14, .int .i64 (e.map fun z => ([.int .i64 z] : List AV)).length), (5, .ms 0 0 1 0 (sw (e.take i)).length none), (15, .int .i64 (i : Nat))] [(0, 0, .cells ((sw (e.take i)).map AV.bool))] 1 1) e.length
    (sub_keep (.cons rfl (.cons rfl (.cons rfl (.cons rfl (.cons rfl .nil)))))) ⟨0, rfl, Nat.zero_le _, by rw [List.take_zero]; rfl⟩ ?_
  rintro mm S ⟨i, rfl, hi, rfl⟩
  unfold body53a
  repeat (first | refine z_seq ?_ | refine z_region rfl ?_)
  refine o_cmp rfl rfl rfl (fun h3 => ?_) fun h3 => ?_
  · have hlt : i < e.length := by
      have := of_decide_eq_true h3
      rw [hce] at this
      omega
    have hge := vsI_get e i hlt
    have ht := sw_take hlt
    have ht2 : (sw (e.take (i + 1))).length = (sw (e.take i)).length + 2 := by
      rw [sw_length, sw_length, List.length_take, List.length_take]
      omega
    have hlk : (sw (e.take i)).length ≤ 1200 := by rw [sw_length, List.length_take]; omega
    generalize e[i] = z at hge ht
    generalize hW : sw (e.take i) = W at *
    have hM : hasM.hasML (W.map AV.bool) = false := hasML_bools _
    repeat (first | refine z_seq ?_ | refine z_region rfl ?_ | refine o_nil ?_ | refine u_seq ?_ | refine z_block ?_ | refine z_skip ?_ | refine z_ct rfl ?_ | refine o_mov rfl ?_ | refine o_load rfl rfl ?_ | refine o_idxs rfl rfl (by omega) (by assumption) rfl ?_)
    repeat (first | refine o_bin (op := .eql) rfl rfl rfl ?_ | refine o_mov rfl ?_ | refine o_bslice rfl rfl ?_)
    refine o_append_ms [[.bool (z == 0)], [.bool (z == 2)]] rfl rfl rfl (fun h => Nat.noConfusion h) rfl (by decide) rfl (by rw [List.length_map]; omega) (by show W.length + 2 ≤ _; omega) ?_
    repeat (first | refine z_region rfl ?_ | refine o_nil ?_ | refine u_seq ?_ | refine u_blk ?_ | refine o_mov rfl ?_ | refine o_bin (op := .add) rfl rfl rfl ?_)
    rw [wrap_succ i (by omega)]
    exact u_round (show e.length - (i + 1) < e.length - i by omega) (sub_ren [(0, _, W.map AV.bool ++ [.bool (z == 0), .bool (z == 2)])] rfl rfl (by simp) (.cons rfl rfl (ren_keep (hasML_append hM rfl)) .nil) (.cons rfl (.same rfl) (.cons rfl (.same rfl) (.cons rfl (.same rfl) (.cons rfl (.ms rfl) (.cons rfl (.same rfl) .nil)))))) ⟨i + 1, rfl, hlt, by rw [ht, ht2]; rfl⟩
  · have hi2 : i = e.length := by
      have := of_decide_eq_false h3
      rw [hce] at this
      omega
    subst hi2
    rw [List.take_length]
    repeat (first | refine z_seq ?_ | refine o_nil ?_ | refine u_seq ?_ | refine z_cf rfl ?_ | refine z_exit ?_ | refine u_exit_seq ?_)
    refine u_out ?_
    repeat (first | refine z_seq ?_ | refine z_region rfl ?_ | refine o_nil ?_ | refine u_seq ?_ | refine z_block ?_ | refine u_exit ?_ | refine o_mov rfl ?_ | refine o_len rfl rfl ?_)
    refine z_loop (fun mm S => ∃ i, mm = l.length - i ∧ i ≤ l.length ∧
        S = st 51 [(27, .vs (cXs l)), (28, .int .i64 (cXs l).length), (5, vsB (sw e)), (8, .ms 0 0 1 0 (idxs (holdB (sw e)) 0 (l.take i)).length none), (29, .int .i64 (i : Nat))] [(0, 0, .cells ((idxs (holdB (sw e)) 0 (l.take i)).map (AV.int .i64)))] 1 1) l.length
      (sub_renw [(none, [])] [(0, 0, (sw e).map AV.bool)] rfl rfl rfl (.cons rfl (hasML_bools _) .nil) (.new .nil) (l' := [(27, .vs (cXs l)), (28, .int .i64 (cXs l).length), (5, vsB (sw e)), (8, .ms 0 0 1 0 0 none), (29, .int .i64 ((0 : Nat) : Int))]) (.cons rfl (.same rfl) (.cons rfl (.same rfl) (.cons rfl (.fms (cs := (sw e).map AV.bool) rfl (List.length_map ..) (fun x hx => by obtain ⟨b, _, rfl⟩ := List.mem_map.1 hx; rfl) ⟨[], by rw [List.append_nil]; exact flat_bools (sw e)⟩) (.cons rfl (.grow rfl) (.cons rfl (.same rfl) .nil)))))) ⟨0, rfl, Nat.zero_le _, by rw [List.take_zero]; rfl⟩ ?_
    clear h3 hi
    rintro mm S ⟨i, rfl, hi, rfl⟩
    unfold body53b
    repeat (first | refine z_seq ?_ | refine z_region rfl ?_)
    refine o_cmp rfl rfl rfl (fun h3 => ?_) fun h3 => ?_
    · have hlt : i < l.length := by
        have := of_decide_eq_true h3
        rw [cXs_length] at this
        omega
      have hge := cXs_get hlt
      have hmem : l[i] ∈ l := List.getElem_mem hlt
      have htk := idxs_take (holdB (sw e)) 0 l i hlt
      rw [Nat.zero_add] at htk
      have hol := idxs_len (holdB (sw e)) 0 (l.take i)
      rw [List.length_take] at hol
      generalize l[i] = y at htk hge hmem
      generalize hO : idxs (holdB (sw e)) 0 (l.take i) = out at *
      have h81 := eval81 y (hsl y hmem) (sw e)
      unfold evalV at h81
      rw [if_pos (hck y hmem)] at h81
      have hM : hasM.hasML (out.map (AV.int .i64)) = false := hasML_ints _
      obtain ⟨yo, yi, ya⟩ := y
      repeat (first | refine z_seq ?_ | refine z_region rfl ?_ | refine o_nil ?_ | refine u_seq ?_ | refine z_block ?_ | refine z_skip ?_ | refine z_ct rfl ?_ | refine o_mov rfl ?_)
      refine o_idxs rfl rfl (Int.natCast_nonneg i) hge rfl ?_
      repeat (first | refine z_seq ?_ | refine z_region rfl ?_ | refine o_nil ?_ | refine u_seq ?_ | refine o_mov rfl ?_ | refine o_loadn rfl rfl rfl rfl ?_ | refine o_store rfl rfl rfl rfl rfl rfl rfl ?_ | refine o_alloc ?_)
      generalize holdB (sw e) (.nd yo yi ya) = hb at h81 htk
      refine o_call rfl rfl h81 (fun h => Bool.noConfusion (show false = true from h)) ?_
      cases hb with
      | true =>
        repeat (first | refine z_seq ?_ | refine z_region rfl ?_ | refine o_nil ?_ | refine u_seq ?_ | refine z_ct rfl ?_ | refine o_gy rfl ?_ | refine o_mov rfl ?_ | refine o_pickt rfl rfl ?_ | refine o_bslice rfl rfl ?_ | refine o_extract rfl rfl ?_ | refine o_cmpt rfl rfl rfl ?_)
        refine o_append_ms [[.int .i64 (i : Nat)]] rfl rfl rfl (fun h => Nat.noConfusion h) rfl (by decide) rfl (by rw [List.length_map]; omega) (by show out.length + 1 ≤ _; omega) ?_
        repeat (first | refine z_region rfl ?_ | refine o_nil ?_ | refine u_seq ?_ | refine u_blk ?_ | refine o_mov rfl ?_ | refine o_bin (op := .add) rfl rfl rfl ?_)
        rw [wrap_succ i (by omega)]
        exact u_round (show l.length - (i + 1) < l.length - i by omega) (sub_ren [(0, _, out.map (AV.int .i64) ++ [.int .i64 (i : Nat)])] rfl rfl (by simp) (.cons rfl rfl (ren_keep (hasML_append hM rfl)) .nil) (.cons rfl (.same rfl) (.cons rfl (.same rfl) (.cons rfl (.same rfl) (.cons rfl (.ms rfl) (.cons rfl (.same rfl) .nil)))))) ⟨i + 1, rfl, hlt, by rw [htk, if_pos rfl, List.length_append, List.map_append]; rfl⟩
      | false =>
        repeat (first | refine z_seq ?_ | refine z_region rfl ?_ | refine o_nil ?_ | refine u_seq ?_ | refine u_blk ?_ | refine z_skip ?_ | refine z_cf rfl ?_ | refine o_gy rfl ?_ | refine o_mov rfl ?_ | refine o_pickt rfl rfl ?_ | refine o_extract rfl rfl ?_ | refine o_bin (op := .add) rfl rfl rfl ?_ | refine o_cmpt rfl rfl rfl ?_)
        rw [wrap_succ i (by omega)]
        exact u_round (show l.length - (i + 1) < l.length - i by omega) (sub_ren [(0, _, out.map (AV.int .i64))] rfl rfl (by simp) (.cons rfl rfl (ren_keep hM) .nil) (.cons rfl (.same rfl) (.cons rfl (.same rfl) (.cons rfl (.same rfl) (.cons rfl (.ms rfl) (.cons rfl (.same rfl) .nil)))))) ⟨i + 1, rfl, hlt, by rw [htk, if_neg (by decide), List.append_nil]; rfl⟩
    · have hi2 : i = l.length := by
        have := of_decide_eq_false h3
        rw [cXs_length] at this
        omega
      subst hi2
      rw [List.take_length]
      repeat (first | refine z_seq ?_ | refine o_nil ?_ | refine u_seq ?_ | refine z_cf rfl ?_ | refine z_exit ?_ | refine u_exit_seq ?_)
      refine u_out ?_
      repeat (first | refine z_seq ?_ | refine z_region rfl ?_ | refine o_nil ?_ | refine u_seq ?_ | refine z_ret ?_ | refine u_exit ?_ | refine o_mov rfl ?_)
      exact u_end ⟨.inr rfl, _, rfl, OwnR.ints _ rfl rfl⟩

end Go.Proofs.Ytofkihmckookjaa
namespace Go.Proofs.Ytofkihmckookjaa
open Go Go.Am

noncomputable def ca36_0 : Code := match env0.fn 36 with
  | some i => ((rangesOf i.ic)[0]?.getD (.skip, .skip)).1
  | none => .skip

noncomputable def cb36_0 : Code := match env0.fn 36 with
  | some i => ((rangesOf i.ic)[0]?.getD (.skip, .skip)).2
  | none => .skip

def asg36_0 : IC := .region [⟨(some 12), .mov (.t 37), none⟩] none

def rb36_0 : IC := .block 3 (.seq (.region [⟨(some 38), .load none (.t 7), none⟩,
    ⟨(some 39), .mov (.t 12), none⟩,
    ⟨(some 40), .call (.c (.fn 53 [] [])) [(.t 38), (.t 39)], none⟩,
    ⟨(some 41), .load none (.t 10), none⟩,
    ⟨(some 42), .bslice 1 1 [.int .i64 0] [(0, 1, (.t 41))], none⟩,
    ⟨(some 43), .call (.c (.fn 16 [] [])) [(.t 40), (.t 42)], none⟩] (some [[], [], [0, 1], [], [3], [2, 4, 2]]))
  (.cond (.t 43) (.seq (.region [⟨none, .store 1 (.t 11) (.c (.bool true)), none⟩] none)
  (.exit 2))
  (.skip)))

noncomputable def b36_0 : IC := .seq (.region [⟨(some 26), .bin .lss (.t 25) (.t 24), none⟩] none)
  (.seq (.cond (.t 26) (.skip)
  (.exit 0))
  (.seq (.block 1 (.seq (.region [⟨(some 27), .mov (.t 25), none⟩,
    ⟨(some 9), .mov (.t 27), none⟩] none)
  (.seq (.region [⟨(some 28), .mov (.t 9), none⟩,
    ⟨(some 29), .mov (.t 8), none⟩,
    ⟨(some 30), .len false (.t 29), none⟩,
    ⟨(some 31), .bin .sub (.t 28) (.t 30), none⟩,
    ⟨(some 10), .alloc [.int .i64 0], none⟩,
    ⟨none, .store 1 (.t 10) (.t 31), none⟩] none)
  (.seq (.region [⟨(some 11), .alloc [.bool false], none⟩,
    ⟨none, .store 1 (.t 11) (.c (.bool false)), none⟩] none)
  (.seq (.seq (.region [⟨(some 32), .bslice 1 3 [.int .i64 0, .int .i64 0, .int .i64 0] [(0, 1, (.c (.int .i64 0))), (1, 1, (.c (.int .i64 1))), (2, 1, (.c (.int .i64 2)))], none⟩,
    ⟨(some 33), .bslice 1 1 [.nils] [(0, 1, (.t 32))], none⟩,
    ⟨(some 34), .mov (.t 1), none⟩,
    ⟨(some 35), .call (.c (.fn 64 [] [])) [(.t 33), (.t 34)], none⟩,
    ⟨(some 36), .call (.c (.fn 52 [] [])) [(.t 35)], none⟩] none)
  (.block 2 (.rangeFunc (.t 36) [37] ca36_0 cb36_0 asg36_0 rb36_0)))
  (.seq (.region [⟨(some 44), .load none (.t 11), none⟩,
    ⟨(some 45), .un .not (.t 44), none⟩] none)
  (.cond (.t 45) (.seq (.region [⟨(some 46), .mov (.t 8), none⟩,
    ⟨(some 47), .mov (.t 9), none⟩,
    ⟨(some 48), .bslice 1 1 [.int .i64 0] [(0, 1, (.t 47))], none⟩,
    ⟨(some 49), .append 1 8 [.int .i64 0] (.t 46) (.t 48), none⟩,
    ⟨(some 8), .mov (.t 49), none⟩] none)
  (.region [⟨(some 50), .load none (.t 7), none⟩,
    ⟨(some 51), .load none (.t 10), none⟩,
    ⟨(some 52), .load none (.t 10), none⟩,
    ⟨(some 53), .bin .add (.t 52) (.c (.int .i64 1)), none⟩,
    ⟨(some 54), .call (.c (.fn 66 [] [])) [(.t 50), (.t 51), (.t 53)], none⟩,
    ⟨none, .store 1 (.t 7) (.t 54), none⟩] none))
  (.skip))))))))
  (.region [⟨(some 55), .bin .add (.t 25) (.c (.int .i64 1)), none⟩,
    ⟨(some 25), .mov (.t 55), none⟩] none)))

-- pneumatic/guard.Redundant
noncomputable def ic36 : IC := .seq (.region [⟨(some 2), .box (.t 0), none⟩,
    ⟨(some 4), .mov (.c (.nils)), none⟩,
    ⟨(some 5), .mov (.c (.int .i64 0)), none⟩] none)
  (.seq (.seq (.region [⟨(some 13), .load (some 1) (.t 2), none⟩,
    ⟨(some 14), .mov (.t 1), none⟩,
    ⟨(some 15), .call (.c (.fn 28 [] [])) [(.t 13), (.t 14)], none⟩,
    ⟨(some 6), .mov (.t 15), none⟩] none)
  (.seq (.region [⟨(some 16), .mov (.t 6), none⟩,
    ⟨(some 17), .bin .neq (.t 16) (.c (.int .i64 0)), none⟩] none)
  (.cond (.t 17) (.seq (.region [⟨(some 18), .mov (.t 6), none⟩,
    ⟨(some 4), .mov (.c (.nils)), none⟩,
    ⟨(some 5), .mov (.t 18), none⟩] none)
  (.ret))
  (.skip))))
  (.seq (.region [⟨(some 19), .faddr 0 (.t 2), none⟩,
    ⟨(some 20), .load none (.t 19), none⟩,
    ⟨(some 21), .call (.c (.fn 41 [] [])) [(.t 20)], none⟩,
    ⟨(some 7), .alloc [.nils], none⟩,
    ⟨none, .store 1 (.t 7) (.t 21), none⟩] none)
  (.seq (.region [⟨(some 8), .mov (.c (.nils)), none⟩] none)
  (.seq (.seq (.region [⟨(some 22), .faddr 0 (.t 2), none⟩,
    ⟨(some 23), .load none (.t 22), none⟩,
    ⟨(some 24), .len false (.t 23), none⟩,
    ⟨(some 25), .mov (.c (.int .i64 0)), none⟩] none)
  (.block 0 (.loop b36_0)))
  (.seq (.region [⟨(some 56), .mov (.t 8), none⟩,
    ⟨(some 4), .mov (.t 56), none⟩,
    ⟨(some 5), .mov (.c (.int .i64 0)), none⟩] none)
  (.ret))))))
theorem fn36 : env0.fn 36 = some ⟨57, ic36, [.t 4, .t 5]⟩ := by kernel_rfl


/-- Does this position show that an expression is needed? -/
def stepN (k : List Ex) (a : Nat) (_ : Unit) (p : List Int) : Unit ⊕ Unit := if trues k p = [(a : Int)] then .inr () else .inl ()

theorem fold_stepN (k : List Ex) (a : Nat) : ∀ C : List (List Int), foldS (stepN k a) C () = if needB C k a = true then .inr () else .inl ()
  | [] => rfl
  | p :: C => by
    rw [foldS]
    unfold needB
    rw [List.any_cons]
    unfold stepN
    by_cases h : trues k p = [(a : Int)]
    · rw [if_pos h, decide_eq_true h, Bool.true_or, if_pos rfl]
    · rw [if_neg h, decide_eq_false h, Bool.false_or]
      exact fold_stepN k a C

theorem along_stepN {k : List Ex} {a m : Nat} : ∀ (C : List (List Int)) (s : Unit), (∀ p ∈ C, p.length = m) → Along (stepN k a) (fun _ p => p.length = m) C s
  | [], _, _ => trivial
  | p :: C, _, h => ⟨h p (List.mem_cons_self ..), fun s' _ => along_stepN C s' fun q hq => h q (List.mem_cons_of_mem _ hq)⟩

structure I36 (D : Nat) (k : List Ex) (cap : Option Nat) (ys : List AV) (out : List Int) (ltm : List (Nat × AV)) (_ : Unit) (H : HS) : Prop where
  nx : D + 2 ≤ H.next
  h4 : Am.look (D + 1) H.heap = some (2, .loop .ready none 57 (tmOf ltm) [37] ca36_0 cb36_0 (D, 1))
  h3 : Am.look D H.heap = some (1, .deferred)
  h0 : Am.look 0 H.heap = some (0, .cells [.ms 1 0 3 0 k.length cap])
  h1 : Am.look 1 H.heap = some (0, .cells ((cXs k).flatten ++ ys))
  h5 : Am.look 2 H.heap = some (0, .cells (out.map (AV.int .i64)))
  h2 : Am.look 3 H.heap = some (0, .cells [.bool false])

structure J36 (D : Nat) (k : List Ex) (cap : Option Nat) (ys : List AV) (out : List Int) (_ : Unit) (H : HS) : Prop where
  nx : D + 2 ≤ H.next
  h4 : ∃ tm, Am.look (D + 1) H.heap = some (2, .loop .done (some (.exit 2)) 57 tm [37] ca36_0 cb36_0 (D, 1))
  h3 : Am.look D H.heap = some (1, .deferred)
  h0 : Am.look 0 H.heap = some (0, .cells [.ms 1 0 3 0 k.length cap])
  h1 : Am.look 1 H.heap = some (0, .cells ((cXs k).flatten ++ ys))
  h5 : Am.look 2 H.heap = some (0, .cells (out.map (AV.int .i64)))
  h2 : Am.look 3 H.heap = some (0, .cells [.bool true])

def M36 (D i : Nat) : Prop := i < 4 ∨ i = D ∨ i = D + 1

theorem local36 {D : Nat} (hD : 4 ≤ D) (k : List Ex) (cap : Option Nat) (ys : List AV) (out : List Int) (ltm : List (Nat × AV)) : Local (M36 D) (I36 D k cap ys out ltm) :=
  ⟨fun s H h i hi => by have := h.nx; rcases hi with hi | hi | hi <;> omega, fun s H H' h hn hl =>
    ⟨Nat.le_trans h.nx hn, (hl (D + 1) (.inr (.inr rfl))).trans h.h4, (hl D (.inr (.inl rfl))).trans h.h3, (hl 0 (.inl (by decide))).trans h.h0, (hl 1 (.inl (by decide))).trans h.h1, (hl 2 (.inl (by decide))).trans h.h5, (hl 3 (.inl (by decide))).trans h.h2⟩⟩

def l36 (l : List Ex) (m : Nat) (out : List Int) (i a : Nat) (C : AV) : List (Nat × AV) := [(36, C), (1, .int .i64 (m : Nat)), (2, .vptr [.vs (cXs l)]), (7, .mptr 0 0 0), (8, .ms 2 0 1 0 out.length none), (24, .int .i64 (cXs l).length), (25, .int .i64 (i : Nat)), (9, .int .i64 (i : Nat)), (10, .vptr [.int .i64 (a : Nat)]), (11, .mptr 3 0 0)]

set_option maxHeartbeats 2000000 in
theorem yield36 {w0 : World} {N0 D : Nat} (hD : 4 ≤ D) {l k : List Ex} {n : Nat} (hsl : ∀ y ∈ k, Slim y) (hg : guardC k n = 0) (cap : Option Nat) (ys : List AV) (m : Nat) (out : List Int) (i a : Nat) (C : AV) (ha : Com Try.prog ca36_0 asg36_0) (hb : Com Try.prog cb36_0 rb36_0) (s : Unit) (p : List Int) (H : HS) (hp : p.length = n) (h : I36 D k cap ys out (l36 l m out i a C) s H) :
    CT Try.prog w0 N0 (.yield (D + 1) 2) [vsI p] H (Left (M36 D) (I36 D k cap ys out (l36 l m out i a C)) (J36 D k cap ys out) H (stepN k a s p)) := by
  obtain ⟨nx, h4, h3, h0, h1, h5, h2⟩ := h
  obtain ⟨g1, g2, g3, g4⟩ := guardC_ok hg
  have h53 : PFn Try.prog 53 [.vs (cXs k), vsI p] (vsI (trues k p)) := which53n k (by omega) p (by omega) (fun y hy => by rw [sw_len2, hp]; exact g4 y hy) hsl
  have hol := idxs_len (holdB (sw p)) 0 k
  have h16 := equal16 (trues k p) [(a : Int)] (by show (idxs (holdB (sw p)) 0 k).length ≤ _; omega)
  refine ct_yield (l0 := (37, vsI p) :: l36 l m out i a C) h4 ha hb rfl (by decide) rfl ?_
  unfold asg36_0
  repeat (first | refine z_region rfl ?_ | refine o_nil ?_ | refine o_mov rfl ?_)
  refine u_end ⟨rfl, _, rfl, ?_⟩
  unfold rb36_0 l36 stepN
  refine z_block (z_seq ?_)
  refine z_drawnF env0_ok (fun d => Nat.beq d 42) true [(53, [.vs (cXs k), vsI p], vsI (trues k p))] (fun w hw => by obtain rfl := List.mem_singleton.1 hw; exact h53) (fun f => Nat.beq f 53) [(16, [vsI (trues k p), vsI [(a : Int)]], .bool (decide (trues k p = [(a : Int)])))] (fun w hw => by obtain rfl := List.mem_singleton.1 hw; exact h16) (fun f => Nat.beq f 16) rfl rfl rfl ?_
  refine o_loadm (sp := 0) rfl (by (repeat (first | rw [look_putl, if_pos rfl] | rw [look_putl, if_neg (by omega)] | rw [look_dropl, if_neg (by omega)])); first | rfl | assumption) (by omega) rfl ?_
  refine o_mov rfl ?_
  refine o_pfn rfl rfl (pair_eq (by refine view_cXs (d := 3) (sp := 0) (ys := ys) k ?_; show Am.look 1 (putl (D + 1) _ H.heap) = _; exact (by (repeat (first | rw [look_putl, if_pos rfl] | rw [look_putl, if_neg (by omega)] | rw [look_dropl, if_neg (by omega)])); first | rfl | assumption)) rfl) lookL_here ?_
  refine o_load rfl rfl ?_
  refine o_fslice rfl rfl rfl rfl (es := [[.int .i64 (a : Nat)]]) rfl ?_
  refine o_call rfl rfl ⟨rfl, lookL_here⟩ (fun h => Bool.noConfusion (show false = true from h)) ?_
  by_cases hd : trues k p = [(a : Int)]
  · rw [decide_eq_true hd, if_pos hd]
    repeat (first | refine z_seq ?_ | refine z_region rfl ?_ | refine o_nil ?_ | refine u_seq ?_ | refine z_ct rfl ?_)
    refine o_store (sp := 0) rfl rfl rfl rfl (by (repeat (first | rw [look_putl, if_pos rfl] | rw [look_putl, if_neg (by omega)] | rw [look_dropl, if_neg (by omega)])); first | rfl | assumption) rfl rfl ?_
    repeat (first | refine o_nil ?_ | refine u_seq ?_ | refine z_exit ?_ | refine u_exit_other rfl ?_)
    refine u_end ⟨57, tmOf (l36 l m out i a C), [37], ca36_0, cb36_0, (D, 1), ?_, some (.exit 2), rfl, ⟨Nat.le_refl _, Nat.le_refl _, fun i hi _ => ?_⟩, rfl, ⟨nx, ⟨tmOf (l36 l m out i a C), ?_⟩, ?_, ?_, ?_, ?_, ?_⟩⟩
    · show Am.look (D + 1) (putl 3 _ (putl (D + 1) _ H.heap)) = _
      exact (by (repeat (first | rw [look_putl, if_pos rfl] | rw [look_putl, if_neg (by omega)] | rw [look_dropl, if_neg (by omega)])); first | rfl | assumption)
    · show Am.look i (putl (D + 1) _ (putl 3 _ (putl (D + 1) _ H.heap))) = _
      rw [look_putl, if_neg (fun e => hi (.inr (.inr e.symm))), look_putl, if_neg (fun e => hi (.inl (by omega))), look_putl, if_neg (fun e => hi (.inr (.inr e.symm)))]
    · show Am.look (D + 1) (putl (D + 1) _ _) = _
      rw [look_putl, if_pos rfl]; rfl
    · show Am.look D (putl (D + 1) _ (putl 3 _ (putl (D + 1) _ H.heap))) = _
      exact (by (repeat (first | rw [look_putl, if_pos rfl] | rw [look_putl, if_neg (by omega)] | rw [look_dropl, if_neg (by omega)])); first | rfl | assumption)
    · show Am.look 0 (putl (D + 1) _ (putl 3 _ (putl (D + 1) _ H.heap))) = _
      exact (by (repeat (first | rw [look_putl, if_pos rfl] | rw [look_putl, if_neg (by omega)] | rw [look_dropl, if_neg (by omega)])); first | rfl | assumption)
    · show Am.look 1 (putl (D + 1) _ (putl 3 _ (putl (D + 1) _ H.heap))) = _
      exact (by (repeat (first | rw [look_putl, if_pos rfl] | rw [look_putl, if_neg (by omega)] | rw [look_dropl, if_neg (by omega)])); first | rfl | assumption)
    · show Am.look 2 (putl (D + 1) _ (putl 3 _ (putl (D + 1) _ H.heap))) = _
      exact (by (repeat (first | rw [look_putl, if_pos rfl] | rw [look_putl, if_neg (by omega)] | rw [look_dropl, if_neg (by omega)])); first | rfl | assumption)
    · show Am.look 3 (putl (D + 1) _ (putl 3 _ (putl (D + 1) _ H.heap))) = _
      exact (by (repeat (first | rw [look_putl, if_pos rfl] | rw [look_putl, if_neg (by omega)] | rw [look_dropl, if_neg (by omega)])); first | rfl | assumption)
  · rw [decide_eq_false hd, if_neg hd]
    repeat (first | refine o_nil ?_ | refine u_seq ?_ | refine u_blk ?_ | refine z_skip ?_ | refine z_cf rfl ?_)
    refine u_end ⟨57, tmOf (l36 l m out i a C), [37], ca36_0, cb36_0, (D, 1), ?_, none, rfl, ⟨Nat.le_refl _, Nat.le_refl _, fun i hi _ => ?_⟩, rfl, ⟨nx, ?_, ?_, ?_, ?_, ?_, ?_⟩⟩
    · show Am.look (D + 1) (putl (D + 1) _ H.heap) = _
      exact (by (repeat (first | rw [look_putl, if_pos rfl] | rw [look_putl, if_neg (by omega)] | rw [look_dropl, if_neg (by omega)])); first | rfl | assumption)
    · show Am.look i (putl (D + 1) _ (putl (D + 1) _ H.heap)) = _
      rw [look_putl, if_neg (fun e => hi (.inr (.inr e.symm))), look_putl, if_neg (fun e => hi (.inr (.inr e.symm)))]
    · show Am.look (D + 1) (putl (D + 1) _ _) = _
      rw [look_putl, if_pos rfl]; rfl
    · show Am.look D (putl (D + 1) _ (putl (D + 1) _ H.heap)) = _
      exact (by (repeat (first | rw [look_putl, if_pos rfl] | rw [look_putl, if_neg (by omega)] | rw [look_dropl, if_neg (by omega)])); first | rfl | assumption)
    · show Am.look 0 (putl (D + 1) _ (putl (D + 1) _ H.heap)) = _
      exact (by (repeat (first | rw [look_putl, if_pos rfl] | rw [look_putl, if_neg (by omega)] | rw [look_dropl, if_neg (by omega)])); first | rfl | assumption)
    · show Am.look 1 (putl (D + 1) _ (putl (D + 1) _ H.heap)) = _
      exact (by (repeat (first | rw [look_putl, if_pos rfl] | rw [look_putl, if_neg (by omega)] | rw [look_dropl, if_neg (by omega)])); first | rfl | assumption)
    · show Am.look 2 (putl (D + 1) _ (putl (D + 1) _ H.heap)) = _
      exact (by (repeat (first | rw [look_putl, if_pos rfl] | rw [look_putl, if_neg (by omega)] | rw [look_dropl, if_neg (by omega)])); first | rfl | assumption)
    · show Am.look 3 (putl (D + 1) _ (putl (D + 1) _ H.heap)) = _
      exact (by (repeat (first | rw [look_putl, if_pos rfl] | rw [look_putl, if_neg (by omega)] | rw [look_dropl, if_neg (by omega)])); first | rfl | assumption)

end Go.Proofs.Ytofkihmckookjaa
namespace Go.Proofs.Ytofkihmckookjaa
open Go Go.Am

theorem RnC.tops {live : Live} {fz : List (Nat × Nat × List AV)} : ∀ ys : List AV, RnC live fz ys (ys.map fun _ => .top)
  | [] => .nil
  | _ :: ys => .cons .top (RnC.tops ys)

theorem RnC.cut {live : Live} {fz : List (Nat × Nat × List AV)} {ys : List AV} : ∀ us : List AV, hasM.hasML us = false → RnC live fz (us ++ ys) (us ++ ys.map fun _ => .top)
  | [], _ => RnC.tops ys
  | u :: us, h => by
    have h : (hasM u || hasM.hasML us) = false := h
    rw [Bool.or_eq_false_iff] at h
    exact .cons (.same h.1) (RnC.cut us h.2)

theorem z_renwq {P : Program} {w0 : World} {N0 n nx ck q : Nat} {l : List (Nat × AV)} {hp : List (Nat × Nat × AObj)} {mk : List (Nat × Nat)} {k : List Fr} {Q : Exit → AS → Prop} {ic : IC} (hq : mk.length = q) (live : Live) (fz : List (Nat × Nat × List AV)) (l' : List (Nat × AV)) (hok : okW (fz.map (·.1)) live = true) (hf : RnF hp fz) (h1 : RnH live fz hp live) (h2 : RnA live fz l l') (h : Zm P w0 N0 none ic (st n l' (enumW 0 live ++ defsW live.length q) (q + live.length) 1 (mksW live.length q)) k Q) : Zm P w0 N0 none ic (st n l hp nx ck mk) k Q := by
  subst hq
  exact z_renwm live fz l' hok hf h1 h2 h

theorem sub_renwq {w0 : World} {N0 n nx nx' ck q : Nat} {l l' : List (Nat × AV)} {hp hp' : List (Nat × Nat × AObj)} {mk mk' : List (Nat × Nat)} (hq : mk.length = q) (live : Live) (fz : List (Nat × Nat × List AV)) (hh : hp' = enumW 0 live ++ defsW live.length q) (hx : nx' = q + live.length) (hm : mk' = mksW live.length q) (hok : okW (fz.map (·.1)) live = true) (hf : RnF hp fz) (h1 : RnH live fz hp live) (h2 : RnA live fz l l') : Sub0 w0 N0 (st n l hp nx ck mk) (st n l' hp' nx' 1 mk') := by
  subst hq hm
  exact sub_renwm live fz hh hx hok hf h1 h2

/-- What holds at each step. -/
def J36s (C : List (List Int)) (l : List Ex) (m : Nat) (mm : Nat) (S : AS) : Prop := ∃ i q cap ys, mm = l.length - i ∧ i ≤ l.length ∧
  S = st 57 [(1, .int .i64 (m : Nat)), (2, .vptr [.vs (cXs l)]), (7, .mptr 0 0 0), (8, .ms 2 0 1 0 (redF C l i).length none), (24, .int .i64 (cXs l).length), (25, .int .i64 (i : Nat))] ((0, 0, .cells [.ms 1 0 3 0 (kp C l i).length cap]) :: (1, 0, .cells ((cXs (kp C l i)).flatten ++ ys)) :: (2, 0, .cells ((redF C l i).map (AV.int .i64))) :: defsW 3 q) (q + 3) 1 (mksW 3 q)

def aft36 : IC := .seq (.region [⟨(some 44), .load none (.t 11), none⟩,
    ⟨(some 45), .un .not (.t 44), none⟩] none)
  (.cond (.t 45) (.seq (.region [⟨(some 46), .mov (.t 8), none⟩,
    ⟨(some 47), .mov (.t 9), none⟩,
    ⟨(some 48), .bslice 1 1 [.int .i64 0] [(0, 1, (.t 47))], none⟩,
    ⟨(some 49), .append 1 8 [.int .i64 0] (.t 46) (.t 48), none⟩,
    ⟨(some 8), .mov (.t 49), none⟩] none)
  (.region [⟨(some 50), .load none (.t 7), none⟩,
    ⟨(some 51), .load none (.t 10), none⟩,
    ⟨(some 52), .load none (.t 10), none⟩,
    ⟨(some 53), .bin .add (.t 52) (.c (.int .i64 1)), none⟩,
    ⟨(some 54), .call (.c (.fn 66 [] [])) [(.t 50), (.t 51), (.t 53)], none⟩,
    ⟨none, .store 1 (.t 7) (.t 54), none⟩] none))
  (.skip))

def inc36 : IC := .region [⟨(some 55), .bin .add (.t 25) (.c (.int .i64 1)), none⟩,
    ⟨(some 25), .mov (.t 55), none⟩] none

section
variable {w0 : World} {N0 : Nat} {k : List Fr} {Q' : Exit → AS → Prop}

set_option maxHeartbeats 2000000 in
theorem after36 {C : List (List Int)} {l : List Ex} (hl : l.length ≤ 600) {m i a : Nat} (hi : i < l.length) (ha : a < (kp C l i).length)
    (hr : redF C l (i + 1) = (if needB C (kp C l i) a = true then redF C l i else redF C l i ++ [(i : Int)]))
    (hk : kp C l (i + 1) = (if needB C (kp C l i) a = true then kp C l i else (kp C l i).eraseIdx a)) (q : Nat) (cap : Option Nat) (ys : List AV) :
    Zm Try.prog w0 N0 none aft36 (st 57 [(1, .int .i64 (m : Nat)), (2, .vptr [.vs (cXs l)]), (7, .mptr 0 0 0), (8, .ms 2 0 1 0 (redF C l i).length none), (24, .int .i64 (cXs l).length), (25, .int .i64 (i : Nat)), (9, .int .i64 (i : Nat)), (10, .vptr [.int .i64 (a : Nat)]), (11, .vptr [.bool (needB C (kp C l i) a)])] ((0, 0, .cells [.ms 1 0 3 0 (kp C l i).length cap]) :: (1, 0, .cells ((cXs (kp C l i)).flatten ++ ys)) :: (2, 0, .cells ((redF C l i).map (AV.int .i64))) :: defsW 3 q) (q + 3) 1 (mksW 3 q))
      [.blk 1, .seq inc36] (QLoopm w0 N0 none (J36s C l m) (l.length - i) Q') := by
  have hol := redF_len C l i
  have hkl : (kp C l i).length ≤ 600 := by have := woL_len (redF C l i) 0 l; show (woL (redF C l i) 0 l).length ≤ 600; omega
  unfold aft36
  cases hn : needB C (kp C l i) a with
  | true =>
    rw [hn, if_pos rfl] at hr hk
    repeat (first | refine z_seq ?_ | refine z_region rfl ?_ | refine o_nil ?_ | refine u_seq ?_ | refine u_blk ?_ | refine z_skip ?_ | refine z_cf rfl ?_ | refine o_mov rfl ?_ | refine o_load rfl rfl ?_ | refine o_un rfl rfl ?_ | refine o_bin (op := .add) rfl rfl rfl ?_)
    rw [wrap_succ i (by omega)]
    exact u_round (show l.length - (i + 1) < l.length - i by omega) (sub_keep (.cons rfl (.cons rfl (.cons rfl (.cons rfl (.cons rfl (.cons rfl .nil))))))) ⟨i + 1, q, cap, ys, rfl, hi, by rw [hr, hk]⟩
  | false =>
    rw [hn, if_neg (by decide)] at hr hk
    generalize redF C l i = out at *
    generalize kp C l i = K at *
    have fin : ∀ ys : List AV, Zm Try.prog w0 N0 none (.region [⟨(some 50), .load none (.t 7), none⟩,
    ⟨(some 51), .load none (.t 10), none⟩,
    ⟨(some 52), .load none (.t 10), none⟩,
    ⟨(some 53), .bin .add (.t 52) (.c (.int .i64 1)), none⟩,
    ⟨(some 54), .call (.c (.fn 66 [] [])) [(.t 50), (.t 51), (.t 53)], none⟩,
    ⟨none, .store 1 (.t 7) (.t 54), none⟩] none) (st 57 [(1, .int .i64 (m : Nat)), (2, .vptr [.vs (cXs l)]), (7, .mptr 0 0 0), (8, .ms 2 0 1 0 (out.length + 1) none), (24, .int .i64 (cXs l).length), (25, .int .i64 (i : Nat)), (10, .vptr [.int .i64 (a : Nat)])] ((0, 0, .cells [.ms 1 0 3 0 K.length cap]) :: (1, 0, .cells ((cXs K).flatten ++ ys)) :: (2, 0, .cells (out.map (AV.int .i64) ++ [.int .i64 (i : Nat)])) :: defsW 3 q) (q + 3) 1 (mksW 3 q))
      [.blk 1, .seq inc36] (QLoopm w0 N0 none (J36s C l m) (l.length - i) Q') := by
      intro ys
      repeat (first | refine z_region rfl ?_ | refine o_load rfl rfl ?_ | refine o_bin (op := .add) rfl rfl rfl ?_)
      rw [wrap_succ a (by omega)]
      refine o_ct _ rfl rfl (ct_fn (delete66 K ys hkl a ha ⟨_, _, _⟩ rfl (by show 1 < q + 3; omega))) (fun _ _ hF z hz => ?_) fun v H hF => ?_
      · obtain ⟨z1, z2, z3⟩ := mksW_mem hz
        refine (hF.1.look z.1 (by omega) (by show z.1 < q + 3; omega)).trans ?_
        show Am.look z.1 ((0, _) :: (1, _) :: (2, _) :: defsW 3 q) = _
        rw [look_cons, if_neg (by omega), look_cons, if_neg (by omega), look_cons, if_neg (by omega), look_defsW, if_pos ⟨z1, z2⟩, z3]
      obtain ⟨hK, c, ys', rfl, hlk⟩ := hF
      have h0 : Am.look 0 H.heap = some (0, .cells [.ms 1 0 3 0 K.length cap]) := hK.look 0 (by decide) (by show 0 < q + 3; omega)
      have h2 : Am.look 2 H.heap = some (0, .cells (out.map (AV.int .i64) ++ [.int .i64 (i : Nat)])) := hK.look 2 (by decide) (by show 2 < q + 3; omega)
      have hnx : q + 3 ≤ H.next := hK.next
      refine o_store (sp := 0) rfl rfl rfl rfl h0 rfl rfl ?_
      repeat (first | refine z_region rfl ?_ | refine o_nil ?_ | refine u_seq ?_ | refine u_blk ?_ | refine o_mov rfl ?_ | refine o_bin (op := .add) rfl rfl rfl ?_)
      rw [wrap_succ i (by omega)]
      exact u_round (show l.length - (i + 1) < l.length - i by omega) (sub_renwq (mksW_length q 3) [(some (0, 0), [.ms 1 0 3 0 (K.eraseIdx a).length (some c)]), (some (1, 0), (cXs (K.eraseIdx a)).flatten ++ ys'.map fun _ => AV.top), (some (2, 0), out.map (AV.int .i64) ++ [.int .i64 (i : Nat)])] [] rfl rfl rfl rfl .nil (.cons (by rw [look_putl, if_pos rfl]; rfl) (.cons (.ms rfl) .nil) (.cons (by rw [look_putl, if_neg (by decide)]; exact hlk) (RnC.cut _ (cXs_hasM (K.eraseIdx a))) (.cons (by rw [look_putl, if_neg (by decide)]; exact h2) (.keep (hasML_append (hasML_ints _) rfl)) .nil))) (.cons rfl (.same rfl) (.cons rfl (.same rfl) (.cons rfl (.mptr rfl) (.cons rfl (.ms rfl) (.cons rfl (.same rfl) (.cons rfl (.same rfl) .nil))))))) ⟨i + 1, q, some c, _, rfl, hi, by rw [hr, hk, List.length_append, List.map_append]; rfl⟩
    repeat (first | refine z_seq ?_ | refine z_region rfl ?_ | refine o_nil ?_ | refine u_seq ?_ | refine z_ct rfl ?_ | refine o_mov rfl ?_ | refine o_load rfl rfl ?_ | refine o_un rfl rfl ?_)
    refine o_fsl [[.int .i64 (i : Nat)]] rfl rfl rfl rfl ?_
    refine o_append_ms [[.int .i64 (i : Nat)]] rfl rfl rfl (fun h => Nat.noConfusion h) rfl (by decide) rfl (by rw [List.length_map]; omega) (by show out.length + 1 ≤ _; omega) ?_
    refine o_mov rfl (o_nil (u_seq ?_))
    refine z_renwq (mksW_length q 3) [(some (0, 0), [.ms 1 0 3 0 K.length cap]), (some (1, 0), (cXs K).flatten ++ ys.map fun _ => AV.top), (some (2, 1), out.map (AV.int .i64) ++ [.int .i64 (i : Nat)])] [] _ rfl .nil (.cons rfl (.cons (.ms rfl) .nil) (.cons rfl (RnC.cut _ (cXs_hasM K)) (.cons rfl (.keep (hasML_append (hasML_ints _) rfl)) .nil))) (.cons rfl (.same rfl) (.cons rfl (.same rfl) (.cons rfl (.mptr rfl) (.cons rfl (.ms rfl) (.cons rfl (.same rfl) (.cons rfl (.same rfl) (.cons rfl (.same rfl) .nil))))))) (fin _)
end
end Go.Proofs.Ytofkihmckookjaa
namespace Go.Proofs.Ytofkihmckookjaa
open Go Go.Am

theorem beq_ne {a b : Nat} (h : a ≠ b) : Nat.beq a b = false := by
  cases e : Nat.beq a b with
  | false => rfl
  | true => exact absurd (Nat.eq_of_beq_eq_true e) h

theorem okW36 {q a b c d : Nat} {c0 c1 c2 c3 : List AV} : okW [q + 3] [(some (0, a), c0), (some (1, b), c1), (some (2, c), c2), (some (q + 3 + 1, d), c3)] = true := by
  simp only [okW, memN, beq_ne (show q + 3 ≠ 0 by omega), beq_ne (show q + 3 ≠ 1 by omega), beq_ne (show q + 3 ≠ 2 by omega), beq_ne (show q + 3 ≠ q + 3 + 1 by omega), beq_ne (show 0 ≠ q + 3 + 1 by omega), beq_ne (show 1 ≠ q + 3 + 1 by omega), beq_ne (show 2 ≠ q + 3 + 1 by omega)]
  rfl

section
variable {w0 : World} {N0 : Nat} {k : List Fr} {Q : Exit → AS → Prop}

set_option maxHeartbeats 2000000 in
theorem round36 {C : List (List Int)} {l : List Ex} (hsl : ∀ y ∈ l, Slim y) {m : Nat} (hC : C = combs (List.replicate m [0, 1, 2])) (hg : guardC l m = 0) (h4 : m ≤ 4) (mm : Nat) (S : AS) (hJ : J36s C l m mm S)
    (fin : ∀ q cap ys, Um Try.prog w0 N0 none (.exit 0) (st 57 [(26, .bool false), (1, .int .i64 (m : Nat)), (2, .vptr [.vs (cXs l)]), (7, .mptr 0 0 0), (8, .ms 2 0 1 0 (redF C l l.length).length none), (24, .int .i64 (cXs l).length), (25, .int .i64 (l.length : Nat))] ((0, 0, .cells [.ms 1 0 3 0 (kp C l l.length).length cap]) :: (1, 0, .cells ((cXs (kp C l l.length)).flatten ++ ys)) :: (2, 0, .cells ((redF C l l.length).map (AV.int .i64))) :: defsW 3 q) (q + 3) 1 (mksW 3 q)) k Q) :
    Zm Try.prog w0 N0 none b36_0 S [] (QLoopm w0 N0 none (J36s C l m) mm (unw Try.prog w0 N0 none k Q)) := by
  obtain ⟨i, q, cap, ys, rfl, hi, rfl⟩ := hJ
  obtain ⟨g1, g2, g3, g4⟩ := guardC_ok hg
  have hcl : (cXs l).length = l.length := cXs_length l
  have h64 := rep64b (n := m) (by omega) h4
  have h52 := comb52 (List.replicate m [0, 1, 2])
  have hrow := combs_row (List.replicate m [0, 1, 2])
  rw [List.length_replicate] at hrow
  unfold b36_0
  repeat (first | refine z_seq ?_ | refine z_region rfl ?_)
  refine o_cmp rfl rfl rfl (fun h3 => ?_) fun h3 => ?_
  · have hlt : i < l.length := by
      have := of_decide_eq_true h3
      rw [hcl] at this
      omega
    obtain ⟨a, ha, hak, hr, hk⟩ := red_step C l i hlt
    have haft := fun q cap ys => after36 (w0 := w0) (N0 := N0) (Q' := unw Try.prog w0 N0 none k Q) (m := m) (by omega) hlt hak hr hk q cap ys
    have hol := redF_len C l i
    have hsub : guardC (kp C l i) m = 0 := guardC_sub (woL_mem _ 0 l) (woL_len _ 0 l) hg
    have hslk : ∀ y ∈ kp C l i, Slim y := fun y hy => hsl y (woL_mem _ 0 l y hy)
    clear hr hk
    generalize hn : needB C (kp C l i) a = nb at haft
    generalize hout : redF C l i = out at *
    generalize kp C l i = K at *
    repeat (first | refine z_seq ?_ | refine z_region rfl ?_ | refine o_nil ?_ | refine u_seq ?_ | refine z_block ?_ | refine z_skip ?_ | refine z_ct rfl ?_ | refine o_mov rfl ?_ | refine o_alloc ?_ | refine o_len rfl rfl ?_ | refine o_bin (op := .sub) rfl rfl rfl ?_)
    rw [show IntKind.i64.wrap (((i : Nat) : Int) - (out.length : Nat)) = ((a : Nat) : Int) from by rw [wrap_in _ (by omega) (by omega)]; omega]
    refine o_store rfl rfl rfl rfl look_top rfl rfl ?_
    rw [putl_top]
    repeat (first | refine z_seq ?_ | refine z_region rfl ?_ | refine o_nil ?_ | refine u_seq ?_ | refine o_alloc ?_)
    refine o_store rfl rfl rfl rfl look_top rfl rfl ?_
    rw [putl_top]
    repeat (first | refine z_seq ?_ | refine z_region rfl ?_ | refine o_nil ?_ | refine u_seq ?_)
    refine o_fsl [[.int .i64 0], [.int .i64 1], [.int .i64 2]] rfl rfl rfl rfl ?_
    refine o_fsl [[vsI [0, 1, 2]]] rfl rfl rfl rfl ?_
    refine o_mov rfl ?_
    have hmk0 : marksOk (mksW 3 q) ((q + 3 + 1, 2, .cells [.bool false]) :: (q + 3, 1, .cells [.int .i64 (a : Nat)]) :: (0, 0, .cells [.ms 1 0 3 0 K.length cap]) :: (1, 0, .cells ((cXs K).flatten ++ ys)) :: (2, 0, .cells (out.map (AV.int .i64))) :: defsW 3 q) := fun z hz => by
      obtain ⟨z1, z2, z3⟩ := mksW_mem hz
      rw [look_cons, if_neg (by omega), look_cons, if_neg (by omega), look_cons, if_neg (by omega), look_cons, if_neg (by omega), look_cons, if_neg (by omega), look_defsW, if_pos ⟨z1, z2⟩, z3]
    refine o_call rfl rfl h64 (fun h => Bool.noConfusion (show false = true from h)) ?_ hmk0
    refine o_call rfl rfl h52 (fun h => Bool.noConfusion (show false = true from h)) ?_ hmk0
    refine o_nil (u_seq (z_block ?_))
    refine z_renwq (mksW_length q 3) [(some (0, 0), [.ms 1 0 3 0 K.length cap]), (some (1, 0), (cXs K).flatten ++ ys.map fun _ => AV.top), (some (2, 0), out.map (AV.int .i64)), (some (q + 3 + 1, 2), [.bool false])] [(q + 3, 1, [.int .i64 (a : Nat)])] (l36 l m out i a (.fn 80 [] [.vptr [css (List.replicate m [0, 1, 2])]])) okW36 (.cons (by (repeat (first | rw [look_cons, if_pos rfl] | rw [look_cons, if_neg (by omega)])); try rfl) rfl .nil) (.cons (by (repeat (first | rw [look_cons, if_pos rfl] | rw [look_cons, if_neg (by omega)])); try rfl) (.cons (.ms rfl) .nil) (.cons (by (repeat (first | rw [look_cons, if_pos rfl] | rw [look_cons, if_neg (by omega)])); try rfl) (RnC.cut _ (cXs_hasM _)) (.cons (by (repeat (first | rw [look_cons, if_pos rfl] | rw [look_cons, if_neg (by omega)])); try rfl) (.keep (hasML_ints _)) (.cons (by (repeat (first | rw [look_cons, if_pos rfl] | rw [look_cons, if_neg (by omega)])); try rfl) (.keep rfl) .nil)))) (.cons rfl (.same rfl) (.cons rfl (.same rfl) (.cons rfl (.same rfl) (.cons rfl (.mptr rfl) (.cons rfl (.ms rfl) (.cons rfl (.same rfl) (.cons rfl (.same rfl) (.cons rfl (.same rfl) (.cons rfl (.fptr (cs := [.int .i64 (a : Nat)]) (by simp [fzl]) rfl) (.cons rfl (.mptr rfl) .nil)))))))))) ?_
    generalize (ys.map fun _ => AV.top) = ys1
    refine z_range (.inl rfl) rfl fun hA hB => (range80 (local36 (D := q + 4) (by omega) K cap ys1 out (l36 l m out i a (.fn 80 [] [.vptr [css (List.replicate m [0, 1, 2])]]))) (fun s p H hp h => yield36 (l := l) (by omega) hslk hsub cap ys1 m out i a (.fn 80 [] [.vptr [css (List.replicate m [0, 1, 2])]]) hA hB s p H hp h) (List.replicate m [0, 1, 2]) (by rw [List.length_replicate]; omega) (fun c hc => by obtain rfl := List.eq_of_mem_replicate hc; decide) ⟨_, _, _⟩ () ?_ (along_stepN _ _ hrow)).mono fun v H2 hF => ?_
    · refine ⟨Nat.le_refl _, ?_, ?_, ?_, ?_, ?_, ?_⟩
      · exact look_top
      · exact (look_new (Nat.lt_succ_self _)).trans look_top
      · show Am.look 0 ((q + 4 + 1, _) :: (q + 4, _) :: (0, _) :: _) = _
        exact (by (repeat (first | rw [look_cons, if_pos rfl] | rw [look_cons, if_neg (by omega)])); try rfl)
      · show Am.look 1 ((q + 4 + 1, _) :: (q + 4, _) :: (0, _) :: (1, _) :: _) = _
        exact (by (repeat (first | rw [look_cons, if_pos rfl] | rw [look_cons, if_neg (by omega)])); try rfl)
      · show Am.look 2 ((q + 4 + 1, _) :: (q + 4, _) :: (0, _) :: (1, _) :: (2, _) :: _) = _
        exact (by (repeat (first | rw [look_cons, if_pos rfl] | rw [look_cons, if_neg (by omega)])); try rfl)
      · show Am.look 3 ((q + 4 + 1, _) :: (q + 4, _) :: (0, _) :: (1, _) :: (2, _) :: (3, _) :: _) = _
        exact (by (repeat (first | rw [look_cons, if_pos rfl] | rw [look_cons, if_neg (by omega)])); try rfl)
    obtain ⟨hK, hF⟩ := hF
    rw [fold_stepN, ← hC, hn] at hF
    have hmk : ∀ (H : HS), Am.look (q + 4) H.heap = some (1, .deferred) → (∀ z ∈ mksW 4 q, Am.look z.1 H.heap = some (z.2, .deferred)) → marksOk ((q + 4, 1) :: mksW 4 q) (dropl (q + 4 + 1) H.heap) := fun H h1 h2 z hz => by
      rcases List.mem_cons.1 hz with rfl | hz
      · rw [look_dropl, if_neg (by omega)]; exact h1
      · have := mksW_mem hz
        rw [look_dropl, if_neg (by omega)]; exact h2 z hz
    have hold : ∀ z ∈ mksW 4 q, Am.look z.1 H2.heap = some (z.2, .deferred) := fun z hz => by
      obtain ⟨z1, z2, z3⟩ := mksW_mem hz
      refine (hK.look z.1 (fun h => by rcases h with h | h | h <;> omega) (by show z.1 < q + 4 + 2; omega)).trans ?_
      show Am.look z.1 ((q + 4 + 1, _) :: (q + 4, _) :: (0, _) :: (1, _) :: (2, _) :: (3, _) :: defsW 4 q) = _
      rw [look_cons, if_neg (by omega), look_cons, if_neg (by omega), look_cons, if_neg (by omega), look_cons, if_neg (by omega), look_cons, if_neg (by omega), look_cons, if_neg (by omega), look_defsW, if_pos ⟨z1, z2⟩, z3]
    have back : ∀ (hp : List (Nat × Nat × AObj)) (nx ck : Nat), Am.look 0 hp = some (0, .cells [.ms 1 0 3 0 K.length cap]) → Am.look 1 hp = some (0, .cells ((cXs K).flatten ++ ys1)) → Am.look 2 hp = some (0, .cells (out.map (AV.int .i64))) → Am.look 3 hp = some (0, .cells [.bool nb]) →
        Zm Try.prog w0 N0 none aft36 (st 57 (l36 l m out i a (.fn 80 [] [.vptr [css (List.replicate m [0, 1, 2])]])) hp nx ck ((q + 4, 1) :: mksW 4 q)) [.blk 1, .seq inc36] (QLoopm w0 N0 none (J36s C l m) (l.length - i) (unw Try.prog w0 N0 none k Q)) := by
      intro hp nx ck e0 e1 e2 e3
      exact z_renwq (q := q + 1) (by rw [List.length_cons, mksW_length]) [(some (0, 0), [.ms 1 0 3 0 K.length cap]), (some (1, 0), (cXs K).flatten ++ ys1.map fun _ => AV.top), (some (2, 0), out.map (AV.int .i64))] [(3, 0, [.bool nb])] [(1, .int .i64 (m : Nat)), (2, .vptr [.vs (cXs l)]), (7, .mptr 0 0 0), (8, .ms 2 0 1 0 out.length none), (24, .int .i64 (cXs l).length), (25, .int .i64 (i : Nat)), (9, .int .i64 (i : Nat)), (10, .vptr [.int .i64 (a : Nat)]), (11, .vptr [.bool nb])] rfl (.cons e3 rfl .nil) (.cons e0 (.cons (.ms rfl) .nil) (.cons e1 (RnC.cut _ (cXs_hasM _)) (.cons e2 (.keep (hasML_ints _)) .nil))) (.cons rfl (.same rfl) (.cons rfl (.same rfl) (.cons rfl (.mptr rfl) (.cons rfl (.ms rfl) (.cons rfl (.same rfl) (.cons rfl (.same rfl) (.cons rfl (.same rfl) (.cons rfl (.same rfl) (.cons rfl (.fptr rfl rfl) .nil))))))))) (haft (q + 1) cap _)
    cases nb with
    | true =>
      rw [if_pos rfl] at hF
      obtain ⟨nx, ⟨tm, h4⟩, h3, h0, h1, h5, h2⟩ := hF
      refine ⟨_, _, .exit 2, _, _, _, _, _, _, h4, by simp, rfl, hmk H2 h3 hold, ?_⟩
      refine u_exit (u_seq ?_)
      exact back (dropl (q + 4 + 1) H2.heap) _ _ (by (repeat (first | rw [look_putl, if_pos rfl] | rw [look_putl, if_neg (by omega)] | rw [look_dropl, if_neg (by omega)])); first | rfl | assumption) (by (repeat (first | rw [look_putl, if_pos rfl] | rw [look_putl, if_neg (by omega)] | rw [look_dropl, if_neg (by omega)])); first | rfl | assumption) (by (repeat (first | rw [look_putl, if_pos rfl] | rw [look_putl, if_neg (by omega)] | rw [look_dropl, if_neg (by omega)])); first | rfl | assumption) (by (repeat (first | rw [look_putl, if_pos rfl] | rw [look_putl, if_neg (by omega)] | rw [look_dropl, if_neg (by omega)])); first | rfl | assumption)
    | false =>
      rw [if_neg (by decide)] at hF
      obtain ⟨nx, h4, h3, h0, h1, h5, h2⟩ := hF
      refine ⟨_, _, .normal, _, _, _, _, _, _, h4, by simp, rfl, hmk H2 h3 hold, ?_⟩
      refine u_blk (u_seq ?_)
      exact back (dropl (q + 4 + 1) H2.heap) _ _ (by (repeat (first | rw [look_putl, if_pos rfl] | rw [look_putl, if_neg (by omega)] | rw [look_dropl, if_neg (by omega)])); first | rfl | assumption) (by (repeat (first | rw [look_putl, if_pos rfl] | rw [look_putl, if_neg (by omega)] | rw [look_dropl, if_neg (by omega)])); first | rfl | assumption) (by (repeat (first | rw [look_putl, if_pos rfl] | rw [look_putl, if_neg (by omega)] | rw [look_dropl, if_neg (by omega)])); first | rfl | assumption) (by (repeat (first | rw [look_putl, if_pos rfl] | rw [look_putl, if_neg (by omega)] | rw [look_dropl, if_neg (by omega)])); first | rfl | assumption)
  · have hi2 : i = l.length := by
      have := of_decide_eq_false h3
      rw [hcl] at this
      omega
    subst hi2
    repeat (first | refine z_seq ?_ | refine o_nil ?_ | refine u_seq ?_ | refine z_cf rfl ?_ | refine z_exit ?_ | refine u_exit_seq ?_)
    refine u_out ?_
    exact fin q cap ys
end
end Go.Proofs.Ytofkihmckookjaa
namespace Go.Proofs.Ytofkihmckookjaa
open Go Go.Am

theorem look_dropAll : ∀ (ms : List (Nat × Nat)) (hp : List (Nat × Nat × AObj)) (k : Nat), (∀ z ∈ ms, z.1 ≠ k) → Am.look k (dropAll ms hp) = Am.look k hp
  | [], _, _, _ => rfl
  | z :: ms, hp, k, h => by
    rw [dropAll_cons, look_dropAll ms _ k fun y hy => h y (List.mem_cons_of_mem _ hy), look_dropl, if_neg (h z (List.mem_cons_self ..))]

noncomputable def tail36 : IC := .seq (.region [⟨(some 8), .mov (.c (.nils)), none⟩] none)
  (.seq (.seq (.region [⟨(some 22), .faddr 0 (.t 2), none⟩,
    ⟨(some 23), .load none (.t 22), none⟩,
    ⟨(some 24), .len false (.t 23), none⟩,
    ⟨(some 25), .mov (.c (.int .i64 0)), none⟩] none)
  (.block 0 (.loop b36_0)))
  (.seq (.region [⟨(some 56), .mov (.t 8), none⟩,
    ⟨(some 4), .mov (.t 56), none⟩,
    ⟨(some 5), .mov (.c (.int .i64 0)), none⟩] none)
  (.ret)))

section
variable {w0 : World} {N0 : Nat}

theorem tail36_ok {C : List (List Int)} {l : List Ex} (hsl : ∀ y ∈ l, Slim y) {m : Nat} (hC : C = combs (List.replicate m [0, 1, 2])) (hg : guardC l m = 0) (h4 : m ≤ 4) (cap : Option Nat) (ys : List AV) :
    Zm Try.prog w0 N0 none tail36 (st 57 [(1, .int .i64 (m : Nat)), (2, .vptr [.vs (cXs l)]), (7, .mptr 0 0 0)] [(0, 0, .cells [.ms 1 0 3 0 l.length cap]), (1, 0, .cells ((cXs l).flatten ++ ys))] 2 1) [] fun e S' => (e = .normal ∨ e = .ret) ∧ ∃ v0, S'.leave.res [.t 4, .t 5] = some v0 ∧ (⟨0, .nil, S'.leave.heap, S'.leave.next, S'.leave.clk, []⟩ : AS).view VD v0 = .tup [vsI (redF C l l.length), .int .i64 0] := by
  have hk0 : kp C l 0 = l := woL_ge l 0 fun x hx => by cases hx
  unfold tail36
  repeat (first | refine z_seq ?_ | refine z_region rfl ?_ | refine o_nil ?_ | refine u_seq ?_ | refine z_block ?_ | refine o_mov rfl ?_ | refine o_load rfl rfl ?_ | refine o_faddrv rfl rfl rfl ?_ | refine o_len rfl rfl ?_)
  refine z_grow 8 1 rfl ?_
  refine z_loop (J36s C l m) l.length (sub_renw [(some (0, 0), [.ms 1 0 3 0 l.length cap]), (some (1, 0), (cXs l).flatten ++ ys.map fun _ => AV.top), (some (2, 1), [])] [] rfl rfl rfl .nil (.cons rfl (.cons (.ms rfl) .nil) (.cons rfl (RnC.cut _ (cXs_hasM _)) (.cons rfl .nil .nil))) (l' := [(1, .int .i64 (m : Nat)), (2, .vptr [.vs (cXs l)]), (7, .mptr 0 0 0), (8, .ms 2 0 1 0 0 none), (24, .int .i64 (cXs l).length), (25, .int .i64 ((0 : Nat) : Int))]) (.cons rfl (.same rfl) (.cons rfl (.same rfl) (.cons rfl (.mptr rfl) (.cons rfl (.ms rfl) (.cons rfl (.same rfl) (.cons rfl (.same rfl) .nil))))))) ⟨0, 0, cap, _, rfl, Nat.zero_le _, by rw [hk0]; rfl⟩ fun mm S hJ => ?_
  refine round36 hsl hC hg h4 mm S hJ fun q cap ys => ?_
  repeat (first | refine z_seq ?_ | refine z_region rfl ?_ | refine o_nil ?_ | refine u_seq ?_ | refine z_ret ?_ | refine u_exit ?_ | refine o_mov rfl ?_)
  refine u_end ⟨.inr rfl, _, rfl, ?_⟩
  refine congrArg AV.tup (pair_eq (view_ints (d := 1) (sp := 0) (redF C l l.length) ?_) rfl)
  show Am.look 2 (dropAll (mksW 3 q) ((0, _) :: (1, _) :: (2, _) :: defsW 3 q)) = _
  rw [look_dropAll _ _ _ fun z hz => by have := (mksW_mem hz).1; omega]
  rfl

set_option maxHeartbeats 2000000 in
theorem redundant36 (l : List Ex) (hsl : ∀ y ∈ l, Slim y) (n : Int) (h4 : guardC l n = 0 → n ≤ 4) : PF Try.prog 36 [.agg [.vs (cXs l)], .int .i64 n] (redV l n) := by
  have h28 := gcheck28 l hsl n
  refine PF_of_Z env0_ok fn36 [(0, .agg [.vs (cXs l)]), (1, .int .i64 n)] (by show 2 ≤ 57; decide) rfl fun w0 N0 => ?_
  unfold ic36 redV
  repeat (first | refine z_seq ?_ | refine z_region rfl ?_ | refine o_nil ?_ | refine u_seq ?_ | refine o_mov rfl ?_ | refine o_loadn rfl rfl rfl rfl ?_ | refine o_box rfl rfl ?_)
  refine o_call rfl rfl h28 (fun h => Bool.noConfusion (show false = true from h)) ?_
  by_cases hg : guardC l n = 0
  · rw [if_pos hg, hg]
    obtain ⟨g1, g2, g3, g4⟩ := guardC_ok hg
    have h4 := h4 hg
    obtain ⟨m, rfl⟩ : ∃ m : Nat, n = (m : Int) := ⟨n.toNat, by omega⟩
    rw [Int.toNat_natCast]
    repeat (first | refine z_seq ?_ | refine z_region rfl ?_ | refine o_nil ?_ | refine u_seq ?_ | refine z_skip ?_ | refine z_cf rfl ?_ | refine o_mov rfl ?_ | refine o_load rfl rfl ?_ | refine o_faddrm rfl ?_ | refine o_cmpf rfl rfl rfl ?_)
    refine o_ct _ rfl rfl (ct_fn (clone41 l (by omega) ⟨_, _, _⟩)) (fun _ _ _ z hz => absurd hz List.not_mem_nil) fun v H hF => ?_
    obtain ⟨hK, hF⟩ := hF
    have hnx : 1 ≤ H.next := hK.next
    have h0 : Am.look 0 H.heap = some (0, .cells [.vs (cXs l)]) := hK.look 0 id (by show 0 < 1; decide)
    refine o_alloc ?_
    rcases hF with ⟨rfl, rfl⟩ | ⟨id, sp, cap, ys, rfl, hge, hlt, hlk⟩
    · refine o_store rfl rfl rfl rfl look_top rfl rfl ?_
      rw [putl_top]
      refine o_nil (u_seq ?_)
      exact z_renw [(some (H.next, H.clk), [.ms 1 0 3 0 0 none]), (none, [])] [(0, 0, [.vs (cXs [])])] [(1, .int .i64 (m : Nat)), (2, .vptr [.vs (cXs [])]), (7, .mptr 0 0 0)] (by simp [okW, memN, beq_ne (show 0 ≠ H.next by omega)]) (.cons (by rw [look_cons, if_neg (by omega)]; exact h0) rfl .nil) (.cons look_top (.cons (.grow rfl) .nil) (.new .nil)) (.cons rfl (.same rfl) (.cons rfl (.fptr rfl rfl) (.cons rfl (.mptr rfl) .nil))) (tail36_ok hsl rfl hg (by omega) none [])
    · refine o_store rfl rfl rfl rfl look_top rfl rfl ?_
      rw [putl_top]
      refine o_nil (u_seq ?_)
      have hge : 1 ≤ id := hge
      exact z_renw [(some (H.next, H.clk), [.ms 1 0 3 0 l.length cap]), (some (id, sp), (cXs l).flatten ++ ys.map fun _ => AV.top)] [(0, 0, [.vs (cXs l)])] [(1, .int .i64 (m : Nat)), (2, .vptr [.vs (cXs l)]), (7, .mptr 0 0 0)] (by simp [okW, memN, beq_ne (show 0 ≠ H.next by omega), beq_ne (show 0 ≠ id by omega), beq_ne (show H.next ≠ id by omega)]) (.cons (by rw [look_cons, if_neg (by omega)]; exact h0) rfl .nil) (.cons look_top (.cons (.ms rfl) .nil) (.cons (by rw [look_cons, if_neg (by omega)]; exact hlk) (RnC.cut _ (cXs_hasM _)) .nil)) (.cons rfl (.same rfl) (.cons rfl (.fptr rfl rfl) (.cons rfl (.mptr rfl) .nil))) (tail36_ok hsl rfl hg (by omega) cap _)
  · rw [if_neg hg]
    repeat (first | refine z_seq ?_ | refine z_region rfl ?_ | refine o_nil ?_ | refine u_seq ?_ | refine o_mov rfl ?_)
    refine o_cmp rfl rfl rfl (fun h => ?_) fun h => absurd (by simpa using h) hg
    repeat (first | refine z_seq ?_ | refine z_region rfl ?_ | refine o_nil ?_ | refine u_seq ?_ | refine z_ct rfl ?_ | refine z_ret ?_ | refine u_ret_seq ?_ | refine o_mov rfl ?_)
    exact u_end ⟨.inr rfl, _, rfl, rfl⟩
end
end Go.Proofs.Ytofkihmckookjaa
