/-
  AN EXPRESSION's NODES AND DEPTH: boolexp.measure for every expression.
-/
import Derived.Test.YtofkihmckookjaaR3
namespace Go.Proofs.Ytofkihmckookjaa
open Go Go.Am

theorem deref_of {S : AS} {id sp : Nat} {cs : List AV} (h : Am.look id S.heap = some (sp, .cells cs)) (hn : id < S.next) : S.deref (.mptr id sp 0) = some cs := by
  simp only [AS.deref, h]
  rw [if_pos ⟨trivial, hn⟩, List.drop_zero]

theorem res_cells3 {S : AS} {a b c : Nat} {pa pb pc va vb vc : AV} {ra rb rc : List AV} (h1 : S.get a = some pa) (d1 : S.deref pa = some (va :: ra)) (h2 : S.get b = some pb) (d2 : S.deref pb = some (vb :: rb)) (h3 : S.get c = some pc) (d3 : S.deref pc = some (vc :: rc)) :
    S.res [.cell a none, .cell b none, .cell c none] = some (.tup [va, vb, vc]) := by
  simp [AS.res, AS.resL, loadA, h1, h2, h3, d1, d2, d3]

def measureV (x : Ex) : AV := match walkX stepM 1 x (0, 0) with
  | .inl (n, m) => .tup [.int .i64 n, .int .i64 m, .bool true]
  | .inr _ => .tup [.int .i64 0, .int .i64 0, .bool false]

set_option maxHeartbeats 2000000 in
theorem measure86 (x : Ex) (hs : Slim x) : PF Try.prog 86 [.agg (cX x)] (measureV x) := by
  obtain ⟨op, ix, args⟩ := x
  refine PF_of_Z env0_ok fn86 [(0, .agg (cX (.nd op ix args)))] (by show 1 ≤ 25; decide) rfl fun w0 N0 => ?_
  unfold ic86
  repeat (first | refine z_seq ?_ | refine z_region rfl ?_ | refine o_nil ?_ | refine u_seq ?_ | refine o_loadn rfl rfl rfl rfl ?_ | refine o_store rfl rfl rfl rfl rfl rfl rfl ?_ | refine o_alloc ?_ | refine o_box rfl rfl ?_)
  refine o_call rfl rfl (preorder87 (.nd op ix args)) (fun h => Bool.noConfusion (show false = true from h)) ?_
  repeat (first | refine o_nil ?_ | refine u_seq ?_ | refine z_block ?_)
  refine z_range (.inl rfl) rfl fun ha hb => (range101 (local86 (l86 (.nd op ix args))) (fun s d x H h => yield86 (.nd op ix args) ha hb s d x H h) (.nd op ix args) ⟨_, _, _⟩ (0, 0) hs ⟨Nat.le_refl _, ⟨Int.le_refl _, by decide⟩, rfl, rfl, rfl, rfl, rfl, rfl, rfl⟩).mono fun v H2 hF => ?_
  obtain ⟨hK, hF⟩ := hF
  unfold measureV
  cases hwk : walkX stepM 1 (.nd op ix args) (0, 0) with
  | inl s =>
    rw [hwk] at hF
    obtain ⟨n, m⟩ := s
    obtain ⟨nx, n0, h7, h6, h4, h5, h1, h2, h3⟩ := hF
    simp only at n0 h4 h5
    refine ⟨_, _, .normal, _, _, _, _, _, _, h7, by simp, rfl, fun z hz => ?_, ?_⟩
    · obtain rfl := List.mem_singleton.1 hz
      rw [look_dropl, if_neg (by decide)]; exact h6
    · repeat (first | refine z_seq ?_ | refine u_seq ?_ | refine u_blk ?_)
      refine z_drawn2 env0_ok [] (fun _ hx => absurd hx List.not_mem_nil) (fun _ => false) (fun i => i == 4 || i == 5) (fun i => i == 1 || i == 2 || i == 3) (fun i h1 h2 => by simp at h1 h2; omega) rfl rfl rfl ?_
      refine o_loadm (sp := 4) (cs := [.int .i64 n]) rfl (by rw [look_dropl, if_neg (by decide)]; exact h4) (by omega) rfl ?_
      refine o_loadm (sp := 5) (cs := [.int .i64 m]) rfl (by rw [look_dropl, if_neg (by decide)]; exact h5) (by omega) rfl ?_
      refine o_store (sp := 1) (cs := [.int .i64 0]) rfl rfl rfl rfl (by rw [look_dropl, if_neg (by decide)]; exact h1) rfl rfl ?_
      refine o_store (sp := 2) (cs := [.int .i64 0]) rfl rfl rfl rfl (by rw [look_putl, if_neg (by decide), look_dropl, if_neg (by decide)]; exact h2) rfl rfl ?_
      refine o_store (sp := 3) (cs := [.bool false]) rfl rfl rfl rfl (by rw [look_putl, if_neg (by decide), look_putl, if_neg (by decide), look_dropl, if_neg (by decide)]; exact h3) rfl rfl ?_
      repeat (first | refine o_nil ?_ | refine u_seq ?_ | refine z_ret ?_)
      refine u_end ⟨.inr rfl, .tup [.int .i64 n, .int .i64 m, .bool true], res_cells3 (get_st 2) (deref_of (sp := 1) (cs := [.int .i64 n]) ?_ ?_) (get_st 3) (deref_of (sp := 2) (cs := [.int .i64 m]) ?_ ?_) (get_st 4) (deref_of (sp := 3) (cs := [.bool true]) ?_ ?_), rfl⟩
      · show Am.look 1 (dropl 6 (putl 3 _ (putl 2 _ (putl 1 _ (dropl 7 H2.heap))))) = _
        rw [look_dropl, if_neg (by decide), look_putl, if_neg (by decide), look_putl, if_neg (by decide), look_putl, if_pos rfl]; rfl
      · show 1 < H2.next; omega
      · show Am.look 2 (dropl 6 (putl 3 _ (putl 2 _ (putl 1 _ (dropl 7 H2.heap))))) = _
        rw [look_dropl, if_neg (by decide), look_putl, if_neg (by decide), look_putl, if_pos rfl]; rfl
      · show 2 < H2.next; omega
      · show Am.look 3 (dropl 6 (putl 3 _ (putl 2 _ (putl 1 _ (dropl 7 H2.heap))))) = _
        rw [look_dropl, if_neg (by decide), look_putl, if_pos rfl]; rfl
      · show 3 < H2.next; omega
  | inr u =>
    rw [hwk] at hF
    obtain ⟨nx, ⟨tm, h7⟩, h6, h1, h2, h3⟩ := hF
    refine ⟨_, _, .ret, _, _, _, _, _, _, h7, by simp, rfl, fun z hz => ?_, ?_⟩
    · obtain rfl := List.mem_singleton.1 hz
      rw [look_dropl, if_neg (by decide)]; exact h6
    · repeat (first | refine u_ret_seq ?_ | refine u_ret_blk ?_)
      refine u_end ⟨.inr rfl, .tup [.int .i64 0, .int .i64 0, .bool false], res_cells3 (get_st 2) (deref_of (sp := 1) (cs := [.int .i64 0]) ?_ ?_) (get_st 3) (deref_of (sp := 2) (cs := [.int .i64 0]) ?_ ?_) (get_st 4) (deref_of (sp := 3) (cs := [.bool false]) ?_ ?_), rfl⟩
      · show Am.look 1 (dropl 6 (dropl 7 H2.heap)) = _
        rw [look_dropl, if_neg (by decide), look_dropl, if_neg (by decide)]; exact h1
      · show 1 < H2.next; omega
      · show Am.look 2 (dropl 6 (dropl 7 H2.heap)) = _
        rw [look_dropl, if_neg (by decide), look_dropl, if_neg (by decide)]; exact h2
      · show 2 < H2.next; omega
      · show Am.look 3 (dropl 6 (dropl 7 H2.heap)) = _
        rw [look_dropl, if_neg (by decide), look_dropl, if_neg (by decide)]; exact h3
      · show 3 < H2.next; omega

end Go.Proofs.Ytofkihmckookjaa
