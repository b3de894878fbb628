/-
  THE LEVELS: homing.levels, as a whole.
-/
import Derived.Test.YtoiblgbaeglgoaaYH9
namespace Go.Proofs.Ytoiblgbaeglgoaa
open Go Go.Am

def own81 : List (List AV × List AV) := [([.vs [[.int .i64 (-1)]], .int .i64 2], [.int .i64 (-1), .int .i64 (-1)]), ([.vs [[.int .i64 (-1)]], .int .i64 4], [.int .i64 (-1), .int .i64 (-1), .int .i64 (-1), .int .i64 (-1)]),
  ([.vs [[.int .i64 (-1)]], .int .i64 8], [.int .i64 (-1), .int .i64 (-1), .int .i64 (-1), .int .i64 (-1), .int .i64 (-1), .int .i64 (-1), .int .i64 (-1), .int .i64 (-1)]),
  ([.vs [[.int .i64 (-1)]], .int .i64 16], [.int .i64 (-1), .int .i64 (-1), .int .i64 (-1), .int .i64 (-1), .int .i64 (-1), .int .i64 (-1), .int .i64 (-1), .int .i64 (-1), .int .i64 (-1), .int .i64 (-1), .int .i64 (-1), .int .i64 (-1), .int .i64 (-1), .int .i64 (-1), .int .i64 (-1), .int .i64 (-1)])]

theorem own81_ok : ownRun Try.prog (env0.tab [] []) 80 81 some own81 = true := by kernel_rfl

theorem rep81 {n : Nat} (h1 : 1 ≤ n) (h4 : n ≤ 4) : PFo Try.prog 81 [vsI [-1], .int .i64 ((2 ^ n : Nat) : Int)] 1 (2 ^ n) (some (2 ^ n)) ((List.replicate (2 ^ n) (-1)).map (AV.int .i64)) := by
  rcases (show n = 1 ∨ n = 2 ∨ n = 3 ∨ n = 4 by omega) with rfl | rfl | rfl | rfl
  · exact own_rows (env0_ok.tab TabOk.nil) own81_ok _ (List.mem_cons_self ..)
  · exact own_rows (env0_ok.tab TabOk.nil) own81_ok _ (List.mem_cons_of_mem _ (List.mem_cons_self ..))
  · exact own_rows (env0_ok.tab TabOk.nil) own81_ok _ (List.mem_cons_of_mem _ (List.mem_cons_of_mem _ (List.mem_cons_self ..)))
  · exact own_rows (env0_ok.tab TabOk.nil) own81_ok _ (List.mem_cons_of_mem _ (List.mem_cons_of_mem _ (List.mem_cons_of_mem _ (List.mem_cons_self ..))))

theorem shl4 {i : Nat} (h : i ≤ 4) : Am.binOp .shl (.int .i64 1) (.int .i64 (i : Nat)) = some (.int .i64 ((2 ^ i : Nat) : Int)) := by
  rcases (show i = 0 ∨ i = 1 ∨ i = 2 ∨ i = 3 ∨ i = 4 by omega) with rfl | rfl | rfl | rfl | rfl <;> rfl

theorem view_intN {S : AS} {d id sp len : Nat} {cap : Option Nat} (a : List Int) (hn : a.length = len) (hl : Am.look id S.heap = some (sp, .cells (a.map (AV.int .i64)))) : S.view (d + 1) (.ms id sp 1 0 len cap) = vsI a := by
  subst hn
  have e : S.elems 1 (.ms id sp 1 0 a.length cap) = some (a.map fun z => ([.int .i64 z] : List AV)) := by
    obtain ⟨n, t, hp, nx, ck, mk⟩ := S
    exact elems_ms (ys := []) (cap := cap) (n := n) (nx := nx) (ck := ck) (mk := mk) (l := []) (hp := hp) (by rw [List.append_nil, ← flat_intl]; exact hl) (List.length_map ..) (fun x hx => by obtain ⟨s, _, rfl⟩ := List.mem_map.1 hx; rfl)
  simp only [AS.view, e]
  unfold vsI
  congr 1
  rw [List.map_map]
  apply List.map_congr_left
  intro s _
  cases d <;> rfl

theorem bfs_BI (l : List Ex) {n : Nat} (h1 : 1 ≤ n) (h4 : n ≤ 4) : ∀ (f : Nat) (s : List Int × List Nat), BI n s → s.2.length + negs s.1 ≤ 2 ^ n → (bfs l n f s).length = 2 ^ n
  | 0, s, h, _ => h.len
  | f + 1, (out, []), h, _ => h.len
  | f + 1, (out, k :: q), h, hm => by
    obtain ⟨hBp, hk, hk0⟩ := BI_pop h
    simp only [List.length_cons] at hm
    obtain ⟨a, b⟩ := visit_BI (l := l) h1 h4 hk (mv l n k) (out, q) hBp hk0 (by show q.length + negs out ≤ _; omega)
    exact bfs_BI l h1 h4 f _ a (by have b : (visit l n k (out, q)).2.length + negs (visit l n k (out, q)).1 = q.length + negs out := b; show (visit l n k (out, q)).2.length + negs (visit l n k (out, q)).1 ≤ _; omega)

theorem negs_rep : ∀ m : Nat, negs (List.replicate m (-1)) = m
  | 0 => rfl
  | m + 1 => by
    have := negs_rep m
    unfold negs at this ⊢
    rw [List.replicate_succ, List.filter_cons, if_pos (by decide), List.length_cons, this]

def out0 (n : Nat) : List Int := (List.replicate (2 ^ n) (-1)).set 0 0

theorem start_BI {n : Nat} (h1 : 1 ≤ n) : BI n (out0 n, [0]) ∧ ([0] : List Nat).length + negs (out0 n) = 2 ^ n := by
  obtain ⟨m, hm⟩ : ∃ m, 2 ^ n = m + 1 := ⟨2 ^ n - 1, by have := Nat.two_pow_pos n; omega⟩
  have e : out0 n = 0 :: List.replicate m (-1) := by unfold out0; rw [hm, List.replicate_succ, List.set_cons_zero]
  have hn : negs (out0 n) = m := by
    rw [e]
    have := negs_rep m
    unfold negs at this ⊢
    rw [List.filter_cons, if_neg (by decide), this]
  have _ := h1
  refine ⟨⟨?_, fun y hy => ?_, fun v hv => ?_, fun v hv => ?_, ?_⟩, ?_⟩
  · show (out0 n).length = _
    rw [e, List.length_cons, List.length_replicate, hm]
  · obtain rfl := List.mem_singleton.1 hy
    refine ⟨by omega, ?_⟩
    show (0 : Int) ≤ (out0 n).getD 0 0
    rw [e]
    exact Int.le_refl _
  · have hv : v ∈ out0 n := hv
    rw [e] at hv
    rcases List.mem_cons.1 hv with rfl | hv
    · decide
    · rw [List.eq_of_mem_replicate hv]; decide
  · show v + ((negs (out0 n) : Nat) : Int) + 1 ≤ _
    rw [hn, hm]
    have hv : v ∈ out0 n := hv
    rw [e] at hv
    rcases List.mem_cons.1 hv with rfl | hv
    · omega
    · rw [List.eq_of_mem_replicate hv]; omega
  · show 1 ≤ _
    omega
  · rw [hn, hm]
    show 1 + m = _
    omega

set_option maxHeartbeats 8000000 in
theorem levels96 (l : List Ex) (hsl : ∀ y ∈ l, Slim y) {n : Nat} (h1 : 1 ≤ n) (h4 : n ≤ 4) (hg : guardC l n = 0) : PF Try.prog 96 [.agg [.vs (cXs l)], .int .i64 (n : Nat)] (vsI (levL l n)) := by
  have hb0 := bitsE_len n 0
  have hpos := pos95 (e := bitsE n 0) (by rw [hb0]; exact h1) (by rw [hb0]; exact h4)
  rw [hb0, idx_bits h1 h4 (Nat.two_pow_pos n)] at hpos
  have hal := allowed94 l hsl (posE (bitsE n 0)) (posC_pos (by rw [hb0]; exact hg))
  have hN := Nat.two_pow_pos n
  refine PF_of_Z env0_ok fn96 [(0, .agg [.vs (cXs l)]), (1, .int .i64 (n : Nat))] (by show 2 ≤ 62; decide) rfl fun w0 N0 => ?_
  unfold ic96 levL
  repeat (first | refine z_seq ?_ | refine z_region rfl ?_ | refine o_nil ?_ | refine u_seq ?_ | refine o_mov rfl ?_ | refine o_box rfl rfl ?_)
  refine o_fsl [[.int .i64 (-1)]] rfl rfl rfl rfl ?_
  repeat (first | refine o_load rfl rfl ?_)
  refine o_bin (op := .shl) rfl rfl (shl4 h4) ?_
  refine o_own rfl rfl (rep81 h1 h4) (flatL_ints _) ?_
  repeat (first | refine z_seq ?_ | refine o_nil ?_ | refine u_seq ?_ | refine o_store rfl rfl rfl rfl rfl rfl rfl ?_ | refine o_alloc ?_)
  refine z_drawn env0_ok [(95, [.int .i64 (n : Nat), .int .i64 0], vsI (posE (bitsE n 0))), (94, [.agg [.vs (cXs l)], vsI (posE (bitsE n 0))], .bool (freeB l (posE (bitsE n 0))))] (fun x hx => by
    rcases List.mem_cons.1 hx with rfl | hx
    · exact hpos
    obtain rfl := List.mem_singleton.1 hx
    exact hal) (fun f => Nat.beq f 95 || Nat.beq f 94) rfl rfl rfl ?_
  repeat (first | refine o_load rfl rfl ?_ | refine o_loadn rfl rfl rfl rfl ?_)
  refine o_call rfl rfl lookL_here (fun h => Bool.noConfusion (show false = true from h)) ?_
  refine o_call rfl rfl (lookL_next (by decide) lookL_here) (fun h => Bool.noConfusion (show false = true from h)) ?_
  cases hf : freeB l (posE (bitsE n 0)) with
  | false =>
    repeat (first | refine z_seq ?_ | refine z_region rfl ?_ | refine o_nil ?_ | refine u_seq ?_ | refine z_ct rfl ?_ | refine z_ret ?_ | refine u_ret_seq ?_ | refine o_mov rfl ?_ | refine o_load rfl rfl ?_ | refine o_un rfl rfl ?_)
    exact u_end ⟨.inr rfl, _, rfl, view_intN (d := 3) _ (List.length_replicate ..) rfl⟩
  | true =>
    rw [if_pos rfl]
    repeat (first | refine z_seq ?_ | refine z_region rfl ?_ | refine o_nil ?_ | refine u_seq ?_ | refine z_skip ?_ | refine z_cf rfl ?_ | refine o_load rfl rfl ?_ | refine o_un rfl rfl ?_ | refine o_idxsm rfl rfl (by omega) (by omega) ?_)
    refine o_storeg rfl rfl rfl rfl (by rw [List.length_map, List.length_replicate]; exact hN) rfl ?_
    repeat (first | refine z_seq ?_ | refine z_region rfl ?_ | refine o_nil ?_ | refine u_seq ?_ | refine o_load rfl rfl ?_ | refine o_store rfl rfl rfl rfl rfl rfl rfl ?_ | refine o_alloc ?_ | refine o_build rfl rfl ?_ | refine o_box rfl rfl ?_)
    refine o_ct _ rfl rfl (ct_fn (put141n (a := 4) (sa := 4) 0 ⟨_, _, _⟩ rfl (show 4 < 6 by decide))) (fun _ _ _ _ hm => absurd hm List.not_mem_nil) fun v2 H4 hF4 => ?_
    subst hF4
    repeat (first | refine z_seq ?_ | refine z_region rfl ?_ | refine o_nil ?_ | refine u_seq ?_ | refine o_load rfl rfl ?_)
    refine o_ct _ rfl rfl (ct_fn (all142 (a := 4) (sa := 4) ⟨_, _, _⟩)) (fun _ _ _ _ hm => absurd hm List.not_mem_nil) fun v2 H4 hF4 => ?_
    obtain ⟨rfl, rfl⟩ := hF4
    refine o_nil (u_seq (z_block ?_))
    have hset : ((List.replicate (2 ^ n) (-1 : Int)).map (AV.int .i64)).set 0 (.int .i64 0) = (out0 n).map (AV.int .i64) := by
      unfold out0
      rw [List.map_set]
    obtain ⟨hB0, hB1⟩ := start_BI h1
    refine z_renw [(some (3, 3), [.ms 1 0 1 0 (2 ^ n) (some (2 ^ n))]), (some (2, 2), (out0 n).map (AV.int .i64)), (some (5, 5), [.mptr 3 0 0]), (some (4, 4), [.ms 4 0 1 0 1 none]), (some (6, 6), [.int .i64 0]), (some (7, 7), [.mptr 3 0 0])] [(0, 0, [.vs (cXs l)]), (1, 1, [.int .i64 (n : Nat)])] (l96 l n) rfl (.cons rfl rfl (.cons rfl rfl .nil)) (.cons rfl (.cons (.ms rfl) .nil) (.cons (by rw [← hset]; rfl) (.keep (hasML_intl _)) (.cons rfl (.cons (.mptr rfl) .nil) (.cons rfl (.cons (.ms rfl) .nil) (.cons rfl (.keep rfl) (.cons rfl (.cons (.mptr rfl) .nil) .nil)))))) (.cons rfl (.fptr rfl rfl) (.cons rfl (.fptr rfl rfl) (.cons rfl (.mptr rfl) (.cons rfl (.mptr rfl) (.cons rfl (.fn rfl rfl (fun i x y h _ => by simp at h) (fun i x y g1 g2 => by
      match i, g1, g2 with
      | 0, g1, g2 => injection g1 with g1; injection g2 with g2; subst g1 g2; exact .mptr rfl
      | i + 1, g1, g2 => simp at g1)) .nil))))) ?_
    refine z_range (.inl rfl) rfl fun ha hb => (range161 h1 h4 (fun out k q H hB hk hk0 hm hQ => yield96 hsl h1 h4 hg ha hb out k q H hB hk hk0 hm hQ) ⟨_, _, _⟩ (out0 n) [0] (2 ^ n + 1) ⟨Nat.le_refl _, rfl, rfl, rfl, rfl, rfl, rfl, 0, 0, [.int .i64 0], rfl, rfl, Nat.le_refl _, rfl⟩ hB0 (by omega) (by omega)).mono fun v H2 hF => ?_
    obtain ⟨hK, q', nx, h7, h6, g0, g1, _⟩ := hF
    have hlen := bfs_BI l h1 h4 (2 ^ n + 1) (out0 n, [0]) hB0 (by show ([0] : List Nat).length + negs (out0 n) ≤ _; omega)
    refine ⟨_, _, .normal, _, _, _, _, _, _, h7, by simp, rfl, fun z hz => ?_, ?_⟩
    · obtain rfl := List.mem_singleton.1 hz
      show Am.look 6 (dropl 7 H2.heap) = some (1, .deferred)
      exact (by (repeat (first | rw [look_putl, if_pos rfl] | rw [look_putl, if_neg (by decide)] | rw [look_dropl, if_neg (by decide)])); all_goals (first | rfl | assumption))
    · repeat (first | refine z_seq ?_ | refine u_seq ?_ | refine u_blk ?_ | refine z_region rfl ?_)
      refine o_loadm (sp := 0) rfl (show Am.look 0 (dropl 7 H2.heap) = _ from (by (repeat (first | rw [look_putl, if_pos rfl] | rw [look_putl, if_neg (by decide)] | rw [look_dropl, if_neg (by decide)])); all_goals (first | rfl | assumption))) (by omega) rfl ?_
      repeat (first | refine o_nil ?_ | refine u_seq ?_ | refine z_ret ?_ | refine o_mov rfl ?_)
      refine u_end ⟨.inr rfl, _, rfl, view_intN (d := 3) _ hlen ?_⟩
      show Am.look 1 (dropl 6 (dropl 7 H2.heap)) = _
      exact (by (repeat (first | rw [look_putl, if_pos rfl] | rw [look_putl, if_neg (by decide)] | rw [look_dropl, if_neg (by decide)])); all_goals (first | rfl | assumption))

end Go.Proofs.Ytoiblgbaeglgoaa
