/-
  WITHOUT AN EXPRESSION NO LEVEL IS GREATER: the law's walk.
-/
import Derived.Test.YtoiblgbaeglgoaaVH20
namespace Go.Proofs.Ytoiblgbaeglgoaa
open Go Go.Am

theorem cXs_sz (l : List Ex) : ∀ x ∈ cXs l, x.length = 3 := cXs_size l

set_option maxHeartbeats 8000000 in
theorem law7h (l : List Ex) (hlen : l.length < 9223372036854775808) (hsl : ∀ y ∈ l, Slim y) (n w : Int) (hw : 0 ≤ w ∧ w ≤ 255) : PF Try.prog 7 [.agg [.vs (cXs l)], .int .i64 n, .int .u8 w] (.bool true) := by
  have hright := right40 l hlen hsl n
  have hcl : (cXs l).length = l.length := cXs_length l
  have haw := awake36'
  refine PF_of_Z env0_ok fn7 [(0, .agg [.vs (cXs l)]), (1, .int .i64 n), (2, .int .u8 w)] (by show 3 ≤ 99; decide) rfl fun w0 N0 => ?_
  unfold ic7
  repeat (first | refine z_seq ?_ | refine z_region rfl ?_ | refine o_nil ?_ | refine u_seq ?_ | refine o_mov rfl ?_ | refine o_loadn rfl rfl rfl rfl ?_ | refine o_box rfl rfl ?_)
  refine o_call rfl rfl hright (fun h => Bool.noConfusion (show false = true from h)) ?_
  cases hr : rightB l n with
  | false =>
    repeat (first | refine z_seq ?_ | refine z_region rfl ?_ | refine o_nil ?_ | refine u_seq ?_ | refine z_ct rfl ?_ | refine o_gn rfl rfl ?_ | refine o_mov rfl ?_ | refine o_pickt rfl rfl ?_ | refine o_un rfl rfl ?_)
    refine o_call rfl rfl haw (fun h => Bool.noConfusion (show false = true from h)) ?_
    repeat (first | refine o_nil ?_ | refine u_seq ?_ | refine z_ret ?_ | refine u_ret_seq ?_ | refine o_mov rfl ?_)
    exact u_end ⟨.inr rfl, _, rfl, rfl⟩
  | true =>
    obtain ⟨r1, r2, r3, hg⟩ := right_ok hr
    obtain ⟨m, rfl⟩ : ∃ m : Nat, n = (m : Int) := ⟨n.toNat, by omega⟩
    obtain ⟨u, rfl⟩ : ∃ u : Nat, w = (u : Int) := ⟨w.toNat, by omega⟩
    have h1 : 1 ≤ m := by omega
    have h4 : m ≤ 4 := by omega
    repeat (first | refine o_gy rfl ?_ | refine o_mov rfl ?_ | refine o_load rfl rfl ?_ | refine o_faddrm rfl ?_ | refine o_un rfl rfl ?_ | refine o_len rfl rfl ?_)
    rw [hcl]
    refine o_cmp rfl rfl rfl (fun h => ?_) fun h => ?_
    · repeat (first | refine z_seq ?_ | refine z_region rfl ?_ | refine o_nil ?_ | refine u_seq ?_ | refine z_ct rfl ?_ | refine o_pickf rfl rfl ?_)
      refine o_call rfl rfl haw (fun h => Bool.noConfusion (show false = true from h)) ?_
      repeat (first | refine o_nil ?_ | refine u_seq ?_ | refine z_ret ?_ | refine u_ret_seq ?_ | refine o_mov rfl ?_)
      exact u_end ⟨.inr rfl, _, rfl, rfl⟩
    have hl0 : l.length ≠ 0 := by
      intro e
      rw [e] at h
      exact absurd h (by decide)
    have ha : u % l.length < l.length := Nat.mod_lt _ (by omega)
    have hrem : Am.binOp .rem (.int .i64 (u : Nat)) (.int .i64 (l.length : Nat)) = some (.int .i64 ((u % l.length : Nat) : Int)) := by
      show (if ((l.length : Nat) : Int) = 0 then none else some (AV.int .i64 (Int.tmod (u : Nat) (l.length : Nat)))) = _
      rw [if_neg (by omega)]
      rfl
    repeat (first | refine z_seq ?_ | refine z_region rfl ?_ | refine o_nil ?_ | refine u_seq ?_ | refine z_skip ?_ | refine z_cf rfl ?_ | refine o_mov rfl ?_ | refine o_load rfl rfl ?_ | refine o_faddrm rfl ?_ | refine o_pickf rfl rfl ?_ | refine o_len rfl rfl ?_ | refine o_conv rfl rfl ?_)
    rw [wrap_in _ (by omega) (by omega), hcl]
    refine o_bin (op := .rem) rfl rfl hrem ?_
    generalize u % l.length = a at ha
    have hsub : ∀ y ∈ l.eraseIdx a, y ∈ l := fun y hy => List.mem_of_mem_eraseIdx hy
    have hel : (l.eraseIdx a).length ≤ l.length := List.length_eraseIdx_le ..
    have hg2 := guardC_part (n := (m : Int)) hsub hel hg
    have p1 := levels42 l hsl (m : Int) fun _ => by omega
    have p2 := levels42 (l.eraseIdx a) (fun y hy => hsl y (hsub y hy)) (m : Int) fun _ => by omega
    rw [levV, if_pos hg, Int.toNat_natCast] at p1
    rw [levV, if_pos hg2, Int.toNat_natCast] at p2
    have hA := (lev_any (l := l) h1 h4).len
    have hB := (lev_any (l := l.eraseIdx a) h1 h4).len
    have hmono : ∀ k, k < 2 ^ m → 0 ≤ (levL l m).getD k 0 → 0 ≤ (levL (l.eraseIdx a) m).getD k 0 ∧ (levL (l.eraseIdx a) m).getD k 0 ≤ (levL l m).getD k 0 := fun k hk h0 => by
      have := lev_mono (l := l) (m := l.eraseIdx a) hsub h1 h4 ((levL l m).getD k 0).toNat k hk (by omega)
      omega
    generalize hL : l.eraseIdx a = L at *
    repeat (first | refine z_seq ?_ | refine z_region rfl ?_ | refine o_nil ?_ | refine u_seq ?_ | refine o_mov rfl ?_ | refine o_load rfl rfl ?_ | refine o_faddrm rfl ?_)
    refine o_ct _ rfl rfl (ct_fn (clone41 l (by omega) ⟨_, _, _⟩)) (fun _ _ _ z hz => absurd hz List.not_mem_nil) fun v H hF => ?_
    obtain ⟨hK, hF⟩ := hF
    have hnx : 1 ≤ H.next := hK.next
    have g0 : Am.look 0 H.heap = some (0, .cells [.vs (cXs l)]) := hK.look 0 id (by show 0 < 1; decide)
    rcases hF with ⟨e, _⟩ | ⟨id, sp, cap, ys, rfl, hge, hlt, hlk⟩
    · rw [e] at hl0
      exact absurd rfl hl0
    have hge : 1 ≤ id := hge
    repeat (first | refine o_mov rfl ?_ | refine o_bin (op := .add) rfl rfl rfl ?_)
    rw [wrap_succ a (by omega)]
    refine o_ct _ rfl rfl (ct_fn (delete66 l ys (by omega) a ha ⟨_, _, _⟩ hlk hlt)) (fun _ _ _ z hz => absurd hz List.not_mem_nil) fun v2 H2 hF2 => ?_
    obtain ⟨hK2, c, ys', rfl, hlk2⟩ := hF2
    have hnx2 : H.next ≤ H2.next := hK2.next
    have g02 : Am.look 0 H2.heap = some (0, .cells [.vs (cXs l)]) := (hK2.look 0 (by show ¬ 0 = id; omega) (by show 0 < H.next; omega)).trans g0
    rw [hL] at hlk2 ⊢
    repeat (first | refine o_alloc ?_ | refine o_build rfl rfl ?_)
    refine o_store (sp := H2.clk) rfl rfl rfl rfl look_top rfl rfl ?_
    rw [putl_top]
    refine o_nil (u_seq ?_)
    refine z_renw [(some (H2.next, H2.clk), [.ms 1 0 3 0 L.length (some c)]), (some (id, sp), (cXs L).flatten ++ ys'.map fun _ => AV.top)] [(0, 0, [.vs (cXs l)])] [(1, .int .i64 (m : Nat)), (3, .vptr [.vs (cXs l)]), (8, .mptr 0 0 0)] (by simp [okW, memN, beq_neH (show 0 ≠ H2.next by omega), beq_neH (show 0 ≠ id by omega), beq_neH (show H2.next ≠ id by omega)]) (.cons (by rw [look_cons, if_neg (by omega)]; exact g02) rfl .nil) (.cons look_top (.cons (.ms rfl) .nil) (.cons (by rw [look_cons, if_neg (by omega)]; exact hlk2) (RnC.cutH _ (cXs_hasM _)) .nil)) (.cons rfl (.same rfl) (.cons rfl (.fptr rfl rfl) (.cons rfl (.mptr rfl) .nil))) ?_
    refine z_renw [(some (0, 0), [.vs (cXs L)])] [(1, 0, (cXs L).flatten ++ ys'.map fun _ => AV.top)] [(1, .int .i64 (m : Nat)), (3, .vptr [.vs (cXs l)]), (8, .mptr 0 0 0)] rfl (.cons rfl (hasML_append (cXs_hasM _) (hasML_tops _)) .nil) (.cons rfl (.cons (.fms rfl (cXs_length L) (cXs_sz L) ⟨_, by rw [List.drop_zero]⟩) .nil) .nil) (.cons rfl (.same rfl) (.cons rfl (.same rfl) (.cons rfl (.mptr rfl) .nil))) ?_
    repeat (first | refine z_seq ?_ | refine z_region rfl ?_ | refine o_mov rfl ?_ | refine o_loadn rfl rfl rfl rfl ?_)
    refine o_call rfl rfl p1 (fun h => Bool.noConfusion (show false = true from h)) ?_
    repeat (first | refine z_seq ?_ | refine z_region rfl ?_ | refine o_nil ?_ | refine u_seq ?_ | refine o_mov rfl ?_ | refine o_loadn rfl rfl rfl rfl ?_ | refine o_extract rfl rfl ?_)
    refine o_call rfl rfl p2 (fun h => Bool.noConfusion (show false = true from h)) ?_
    have hAl : ((levL l m).map fun z => ([.int .i64 z] : List AV)).length = 2 ^ m := by rw [List.length_map, hA]
    have hBl : ((levL L m).map fun z => ([.int .i64 z] : List AV)).length = 2 ^ m := by rw [List.length_map, hB]
    repeat (first | refine z_seq ?_ | refine z_region rfl ?_ | refine o_nil ?_ | refine u_seq ?_ | refine o_gy rfl ?_ | refine o_mov rfl ?_ | refine o_len rfl rfl ?_ | refine o_extract rfl rfl ?_ | refine o_bin (op := .add) rfl rfl rfl ?_ | refine o_cmpf rfl rfl rfl ?_)
    rw [hAl]
    refine o_bin (op := .shl) rfl rfl (shl4 h4) ?_
    repeat (first | refine o_gy rfl ?_)
    refine o_cmp rfl rfl rfl (fun h => absurd h (by simp)) fun _ => ?_
    repeat (first | refine o_gy rfl ?_ | refine o_mov rfl ?_ | refine o_pickf rfl rfl ?_ | refine o_len rfl rfl ?_)
    rw [hBl]
    refine o_bin (op := .shl) rfl rfl (shl4 h4) ?_
    repeat (first | refine o_gy rfl ?_)
    refine o_cmp rfl rfl rfl (fun h => absurd h (by simp)) fun _ => ?_
    refine o_pickf rfl rfl (o_nil (u_seq (z_cf rfl (z_skip (u_seq ?_)))))
    exact z_renw [] [] [(9, vsI (levL l m)), (11, vsI (levL L m))] rfl .nil .nil (.cons rfl (.same rfl) (.cons rfl (.same rfl) .nil)) (rest7_ok hA hB (pow4 h4) hmono)

end Go.Proofs.Ytoiblgbaeglgoaa
