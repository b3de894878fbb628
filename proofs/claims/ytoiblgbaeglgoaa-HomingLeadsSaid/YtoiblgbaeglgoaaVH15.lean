/-
  THE FIRST HOMING: homing.Find, and the reference's; the law of homings.
-/
import Derived.Test.YtoiblgbaeglgoaaVH14
import Derived.Test.YtoiblgbaeglgoaaVT3d
namespace Go.Proofs.Ytoiblgbaeglgoaa
open Go Go.Am

def homeP (l : List Ex) (n : Nat) (D : List Int) : Nat → Nat → List Sk
  | 0, _ => []
  | d + 1, k => match (mv l n k).find? (down n D k) with
    | some i => skE n k i :: homeP l n D d (nxt n k i)
    | none => []

theorem lev_bound {l : List Ex} {n : Nat} {D : List Int} (h4 : n ≤ 4) (hD : LevW l n D) : ∀ z, z < 2 ^ n → -1 ≤ D.getD z 0 ∧ D.getD z 0 ≤ 100 := fun z hz => by
  have := pow4 h4
  have := hD.hi z hz
  exact ⟨hD.lo z hz, by omega⟩

theorem down_some {l : List Ex} {n : Nat} {D : List Int} (h1 : 1 ≤ n) (h4 : n ≤ 4) (hD : LevW l n D) {k : Nat} (hk : k < 2 ^ n) (h0 : 0 < D.getD k 0) : ∃ i, (mv l n k).find? (down n D k) = some i ∧ i ∈ mv l n k ∧ D.getD (nxt n k i) 0 = D.getD k 0 - 1 := by
  obtain ⟨y, hy, i, hi, e1, e2⟩ := hD.pred k hk h0
  have hb := mv_back h1 h4 hi
  have hn := nxt_nxt h1 h4 hy (mv_lt hi)
  rw [e1] at hb hn
  cases hf : (mv l n k).find? (down n D k) with
  | none =>
    have := List.find?_eq_none.1 hf i hb
    exact absurd (show down n D k i = true by unfold down; rw [hn]; exact beq_iff_eq.2 (by omega)) this
  | some j =>
    have hj := List.find?_some hf
    unfold down at hj
    exact ⟨j, rfl, List.mem_of_find?_eq_some hf, by simpa using hj⟩

def findV (l : List Ex) (e : List Bool) : AV :=
  if guardC l e.length = 0 then
    (if freeB l (posE e) then
      (if (levL l e.length).getD (idxE e) 0 < 0 then .tup [.vs [], .int .i64 6] else .tup [.vs (cSs (homeP l e.length (levL l e.length) ((levL l e.length).getD (idxE e) 0).toNat (idxE e))), .int .i64 0])
    else .tup [.vs [], .int .i64 22])
  else .tup [.vs [], .int .i64 (guardC l e.length)]

def b37_0 : IC := .seq (.seq (.region [⟨(some 37), .mov (.t 9), none⟩,
    ⟨(some 38), .mov (.t 8), none⟩,
    ⟨(some 39), .idxs 1 (.t 37) (.t 38), none⟩,
    ⟨(some 40), .load none (.t 39), none⟩,
    ⟨(some 41), .bin .gtr (.t 40) (.c (.int .i64 0)), none⟩] none)
  (.cond (.t 41) (.skip)
  (.exit 0)))
  (.block 1 (.seq (.region [⟨(some 43), .load (some 1) (.t 2), none⟩,
    ⟨(some 44), .mov (.t 6), none⟩,
    ⟨(some 45), .mov (.t 8), none⟩,
    ⟨(some 46), .mov (.t 9), none⟩,
    ⟨(some 47), .call (.c (.fn 97 [] [])) [(.t 43), (.t 44), (.t 45), (.t 46)], none⟩,
    ⟨(some 42), .mov (.t 47), none⟩,
    ⟨(some 48), .extract (.t 42) 0, none⟩,
    ⟨(some 49), .extract (.t 42) 1, none⟩,
    ⟨(some 11), .alloc [.int .i64 0, .bool false], none⟩,
    ⟨none, .store 2 (.t 11) (.t 48), none⟩,
    ⟨(some 12), .mov (.t 49), none⟩] none)
  (.seq (.seq (.region [⟨(some 50), .mov (.t 12), none⟩,
    ⟨(some 51), .un .not (.t 50), none⟩] none)
  (.cond (.t 51) (.seq (.region [⟨(some 4), .mov (.c (.nils)), none⟩,
    ⟨(some 5), .mov (.c (.int .i64 6)), none⟩] none)
  (.ret))
  (.skip)))
  (.seq (.region [⟨(some 52), .mov (.t 10), none⟩,
    ⟨(some 53), .load (some 2) (.t 11), none⟩,
    ⟨(some 54), .bslice 2 1 [.int .i64 0, .bool false] [(0, 2, (.t 53))], none⟩,
    ⟨(some 55), .append 2 16 [.int .i64 0, .bool false] (.t 52) (.t 54), none⟩,
    ⟨(some 10), .mov (.t 55), none⟩] none)
  (.region [⟨(some 56), .mov (.t 8), none⟩,
    ⟨(some 57), .faddr 0 (.t 11), none⟩,
    ⟨(some 58), .load none (.t 57), none⟩,
    ⟨(some 59), .bin .shl (.c (.int .i64 1)) (.t 58), none⟩,
    ⟨(some 60), .bin .xor (.t 56) (.t 59), none⟩,
    ⟨(some 8), .mov (.t 60), none⟩] none)))))

-- pneumatic/homing.Find
def ic37 : IC := .seq (.region [⟨(some 2), .box (.t 0), none⟩,
    ⟨(some 4), .mov (.c (.nils)), none⟩,
    ⟨(some 5), .mov (.c (.int .i64 0)), none⟩] none)
  (.seq (.region [⟨(some 13), .mov (.t 1), none⟩,
    ⟨(some 14), .len false (.t 13), none⟩,
    ⟨(some 6), .mov (.t 14), none⟩] none)
  (.seq (.seq (.region [⟨(some 15), .load (some 1) (.t 2), none⟩,
    ⟨(some 16), .mov (.t 6), none⟩,
    ⟨(some 17), .call (.c (.fn 80 [] [])) [(.t 15), (.t 16)], none⟩,
    ⟨(some 7), .mov (.t 17), none⟩] none)
  (.seq (.region [⟨(some 18), .mov (.t 7), none⟩,
    ⟨(some 19), .bin .neq (.t 18) (.c (.int .i64 0)), none⟩] none)
  (.cond (.t 19) (.seq (.region [⟨(some 20), .mov (.t 7), none⟩,
    ⟨(some 4), .mov (.c (.nils)), none⟩,
    ⟨(some 5), .mov (.t 20), none⟩] none)
  (.ret))
  (.skip))))
  (.seq (.region [⟨(some 21), .mov (.t 1), none⟩,
    ⟨(some 22), .call (.c (.fn 93 [] [])) [(.t 21)], none⟩,
    ⟨(some 8), .mov (.t 22), none⟩] none)
  (.seq (.seq (.region [⟨(some 23), .load (some 1) (.t 2), none⟩,
    ⟨(some 24), .mov (.t 6), none⟩,
    ⟨(some 25), .mov (.t 8), none⟩,
    ⟨(some 26), .call (.c (.fn 95 [] [])) [(.t 24), (.t 25)], none⟩,
    ⟨(some 27), .call (.c (.fn 94 [] [])) [(.t 23), (.t 26)], none⟩,
    ⟨(some 28), .un .not (.t 27), none⟩] (some [[], [], [], [1, 2], [0, 3, 3], [4]]))
  (.cond (.t 28) (.seq (.region [⟨(some 4), .mov (.c (.nils)), none⟩,
    ⟨(some 5), .mov (.c (.int .i64 22)), none⟩] none)
  (.ret))
  (.skip)))
  (.seq (.region [⟨(some 29), .load (some 1) (.t 2), none⟩,
    ⟨(some 30), .mov (.t 6), none⟩,
    ⟨(some 31), .call (.c (.fn 96 [] [])) [(.t 29), (.t 30)], none⟩,
    ⟨(some 9), .mov (.t 31), none⟩] none)
  (.seq (.seq (.region [⟨(some 32), .mov (.t 9), none⟩,
    ⟨(some 33), .mov (.t 8), none⟩,
    ⟨(some 34), .idxs 1 (.t 32) (.t 33), none⟩,
    ⟨(some 35), .load none (.t 34), none⟩,
    ⟨(some 36), .bin .lss (.t 35) (.c (.int .i64 0)), none⟩] none)
  (.cond (.t 36) (.seq (.region [⟨(some 4), .mov (.c (.nils)), none⟩,
    ⟨(some 5), .mov (.c (.int .i64 6)), none⟩] none)
  (.ret))
  (.skip)))
  (.seq (.region [⟨(some 10), .mov (.c (.nils)), none⟩] none)
  (.seq (.block 0 (.loop b37_0))
  (.seq (.region [⟨(some 61), .mov (.t 10), none⟩,
    ⟨(some 4), .mov (.t 61), none⟩,
    ⟨(some 5), .mov (.c (.int .i64 0)), none⟩] none)
  (.ret))))))))))
theorem fn37 : env0.fn 37 = some ⟨62, ic37, [.t 4, .t 5]⟩ := by kernel_rfl

set_option maxHeartbeats 8000000 in
theorem find37 (l : List Ex) (hsl : ∀ y ∈ l, Slim y) (e : List Bool) (h4 : guardC l e.length = 0 → e.length ≤ 4) : PF Try.prog 37 [.agg [.vs (cXs l)], vsB e] (findV l e) := by
  have h28 := gcheck28 l hsl e.length
  have hel : (e.map fun b => ([.bool b] : List AV)).length = e.length := List.length_map ..
  refine PF_of_Z env0_ok fn37 [(0, .agg [.vs (cXs l)]), (1, vsB e)] (by show 2 ≤ 62; decide) rfl fun w0 N0 => ?_
  unfold ic37 findV
  repeat (first | refine z_seq ?_ | refine z_region rfl ?_ | refine o_nil ?_ | refine u_seq ?_ | refine o_mov rfl ?_ | refine o_loadn rfl rfl rfl rfl ?_ | refine o_len rfl rfl ?_ | refine o_box rfl rfl ?_)
  rw [hel]
  refine o_call rfl rfl h28 (fun h => Bool.noConfusion (show false = true from h)) ?_
  by_cases hg : guardC l e.length = 0
  · rw [if_pos hg, hg]
    obtain ⟨g1, g2, g3, g4⟩ := guardC_ok hg
    have h4 := h4 hg
    have h1 : 1 ≤ e.length := by omega
    have hD := lev_any (l := l) h1 h4
    have hb := lev_bound h4 hD
    have hki := idx_lt h1 h4
    have hp4 := pow4 h4
    repeat (first | refine z_seq ?_ | refine z_region rfl ?_ | refine o_nil ?_ | refine u_seq ?_ | refine z_skip ?_ | refine z_cf rfl ?_ | refine o_mov rfl ?_ | refine o_cmpf rfl rfl rfl ?_)
    refine o_call rfl rfl (index93 h1 h4) (fun h => Bool.noConfusion (show false = true from h)) ?_
    repeat (first | refine z_seq ?_ | refine o_nil ?_ | refine u_seq ?_ | refine o_mov rfl ?_)
    refine z_drawn env0_ok [(95, [.int .i64 (e.length : Nat), .int .i64 (idxE e : Nat)], vsI (posE e)), (94, [.agg [.vs (cXs l)], vsI (posE e)], .bool (freeB l (posE e)))] (fun x hx => by
      rcases List.mem_cons.1 hx with rfl | hx
      · exact pos95 h1 h4
      obtain rfl := List.mem_singleton.1 hx
      exact allowed94 l hsl (posE e) (posC_pos hg)) (fun f => Nat.beq f 95 || Nat.beq f 94) rfl rfl rfl ?_
    repeat (first | refine o_mov rfl ?_ | refine o_loadn rfl rfl rfl rfl ?_)
    refine o_call rfl rfl lookL_here (fun h => Bool.noConfusion (show false = true from h)) ?_
    refine o_call rfl rfl (lookL_next (by decide) lookL_here) (fun h => Bool.noConfusion (show false = true from h)) ?_
    cases hf : freeB l (posE e) with
    | false =>
      repeat (first | refine z_seq ?_ | refine z_region rfl ?_ | refine o_nil ?_ | refine u_seq ?_ | refine z_ct rfl ?_ | refine z_ret ?_ | refine u_ret_seq ?_ | refine o_mov rfl ?_ | refine o_un rfl rfl ?_)
      exact u_end ⟨.inr rfl, _, rfl, rfl⟩
    | true =>
      rw [if_pos rfl]
      repeat (first | refine z_seq ?_ | refine z_region rfl ?_ | refine o_nil ?_ | refine u_seq ?_ | refine z_skip ?_ | refine z_cf rfl ?_ | refine o_mov rfl ?_ | refine o_loadn rfl rfl rfl rfl ?_ | refine o_un rfl rfl ?_)
      refine o_call rfl rfl (levels96 l hsl h1 h4 hg) (fun h => Bool.noConfusion (show false = true from h)) ?_
      have hgk := vsI_getD (D := levL l e.length) (k := idxE e) (by rw [hD.len]; exact hki)
      repeat (first | refine z_seq ?_ | refine z_region rfl ?_ | refine o_nil ?_ | refine u_seq ?_ | refine o_mov rfl ?_ | refine o_load rfl rfl ?_ | refine o_idxs rfl rfl (by omega) (by assumption) rfl ?_)
      by_cases hneg : (levL l e.length).getD (idxE e) 0 < 0
      · rw [if_pos hneg]
        refine o_cmp rfl rfl rfl (fun _ => ?_) fun h => absurd hneg (of_decide_eq_false h)
        repeat (first | refine z_seq ?_ | refine z_region rfl ?_ | refine o_nil ?_ | refine u_seq ?_ | refine z_ct rfl ?_ | refine z_ret ?_ | refine u_ret_seq ?_ | refine o_mov rfl ?_)
        exact u_end ⟨.inr rfl, _, rfl, rfl⟩
      rw [if_neg hneg]
      refine o_cmp rfl rfl rfl (fun h => absurd (of_decide_eq_true h) hneg) fun _ => ?_
      repeat (first | refine z_seq ?_ | refine z_region rfl ?_ | refine o_nil ?_ | refine u_seq ?_ | refine z_block ?_ | refine z_skip ?_ | refine z_cf rfl ?_ | refine o_mov rfl ?_)
      generalize hDD : levL l e.length = D at *
      refine z_loop (fun mm S => ∃ k d A, mm = d ∧ k < 2 ^ e.length ∧ D.getD k 0 = (d : Int) ∧ homeP l e.length D (D.getD (idxE e) 0).toNat (idxE e) = A ++ homeP l e.length D d k ∧ A.length + d ≤ 100 ∧
          S = st 62 [(2, .vptr [.vs (cXs l)]), (6, .int .i64 (e.length : Nat)), (8, .int .i64 (k : Nat)), (9, vsI D), (10, .ms 0 0 2 0 A.length none)] [(0, 0, .cells (cSs A).flatten)] 1 1) (D.getD (idxE e) 0).toNat
        (sub_renw [(none, [])] [(0, 0, [.vs (cXs l)])] rfl rfl rfl (.cons rfl rfl .nil) (.new .nil) (l' := [(2, .vptr [.vs (cXs l)]), (6, .int .i64 (e.length : Nat)), (8, .int .i64 (idxE e : Nat)), (9, vsI D), (10, .ms 0 0 2 0 0 none)]) (.cons rfl (.fptr rfl rfl) (.cons rfl (.same rfl) (.cons rfl (.same rfl) (.cons rfl (.same rfl) (.cons rfl (.grow rfl) .nil)))))) ⟨idxE e, _, [], rfl, hki, by omega, rfl, by have := (hb _ hki).2; show 0 + _ ≤ _; omega, rfl⟩ ?_
      rintro mm S ⟨k, d, A, rfl, hk, hkd, hA, hal, rfl⟩
      have hgk := vsI_getD (D := D) (k := k) (by rw [hD.len]; exact hk)
      unfold b37_0
      repeat (first | refine z_seq ?_ | refine z_region rfl ?_ | refine o_mov rfl ?_ | refine o_load rfl rfl ?_ | refine o_idxs rfl rfl (by omega) (by assumption) rfl ?_)
      cases mm with
      | zero =>
        refine o_cmp rfl rfl rfl (fun h => absurd (of_decide_eq_true h) (by omega)) fun _ => ?_
        rw [homeP, List.append_nil] at hA
        rw [hA]
        repeat (first | refine o_nil ?_ | refine u_seq ?_ | refine z_cf rfl ?_ | refine z_exit ?_ | refine u_exit_seq ?_)
        refine u_out ?_
        repeat (first | refine z_seq ?_ | refine z_region rfl ?_ | refine o_nil ?_ | refine u_seq ?_ | refine z_ret ?_ | refine u_exit ?_ | refine o_mov rfl ?_)
        refine u_end ⟨.inr rfl, _, rfl, ?_⟩
        exact congrArg AV.tup (pair_eq (view_cSs (d := 2) A rfl) rfl)
      | succ d =>
        refine o_cmp rfl rfl rfl (fun _ => ?_) fun h => absurd (of_decide_eq_false h) (by omega)
        obtain ⟨i, hfi, him, hDi⟩ := down_some h1 h4 hD hk (by omega)
        have hin := mv_lt him
        have h97 := first97 l hsl h1 h4 hg hk D hD.len hb
        unfold firstV at h97
        rw [hfi] at h97
        simp only at h97
        rw [homeP, hfi] at hA
        simp only at hA
        have hbl := bitsE_len e.length k
        have hx := xorE (e := bitsE e.length k) (by rw [hbl]; exact h1) (by rw [hbl]; exact h4) (by rw [hbl]; exact hin)
        rw [idx_bits h1 h4 hk, show idxE (flipE (bitsE e.length k) i) = nxt e.length k i from rfl] at hx
        repeat (first | refine z_seq ?_ | refine z_region rfl ?_ | refine o_nil ?_ | refine u_seq ?_ | refine z_block ?_ | refine z_skip ?_ | refine z_ct rfl ?_ | refine o_mov rfl ?_ | refine o_loadn rfl rfl rfl rfl ?_)
        refine o_call rfl rfl h97 (fun h => Bool.noConfusion (show false = true from h)) ?_
        unfold cS skE
        repeat (first | refine z_seq ?_ | refine z_region rfl ?_ | refine o_nil ?_ | refine u_seq ?_ | refine z_skip ?_ | refine z_cf rfl ?_ | refine o_mov rfl ?_ | refine o_loadn rfl rfl rfl rfl ?_ | refine o_store rfl rfl rfl rfl rfl rfl rfl ?_ | refine o_alloc ?_ | refine o_un rfl rfl ?_ | refine o_extract rfl rfl ?_)
        refine o_fsl [[.int .i64 (i : Nat), .bool (!((bitsE e.length k).getD i false))]] rfl rfl rfl rfl ?_
        refine o_append_ms [[.int .i64 (i : Nat), .bool (!((bitsE e.length k).getD i false))]] rfl rfl rfl (fun h => Nat.noConfusion h) rfl (by decide) rfl (cSs_flat_len _).symm (by show _ + 1 ≤ _; omega) ?_
        repeat (first | refine z_region rfl ?_ | refine o_nil ?_ | refine u_seq ?_ | refine o_mov rfl ?_ | refine o_load rfl rfl ?_ | refine o_faddrm rfl ?_)
        refine o_bin (op := .shl) rfl rfl (shl1 (show i < 4 by omega)) ?_
        refine o_bin (op := .xor) rfl rfl hx ?_
        repeat (first | refine o_nil ?_ | refine u_blk ?_ | refine o_mov rfl ?_)
        exact u_round (show d < d + 1 by omega) (sub_renw [(some (0, 2), (cSs (A ++ [skE e.length k i])).flatten)] [] rfl rfl rfl .nil (.cons (by rw [cSs_snoc]; rfl) (.keep (cSs_hasM _)) .nil) (l' := [(2, .vptr [.vs (cXs l)]), (6, .int .i64 (e.length : Nat)), (8, .int .i64 (nxt e.length k i : Nat)), (9, vsI D), (10, .ms 0 0 2 0 (A ++ [skE e.length k i]).length none)]) (.cons rfl (.same rfl) (.cons rfl (.same rfl) (.cons rfl (.same rfl) (.cons rfl (.same rfl) (.cons (by rw [List.length_append]; rfl) (.ms rfl) .nil))))))
          ⟨nxt e.length k i, d, A ++ [skE e.length k i], rfl, nxt_lt h1 h4, by omega, by rw [hA, List.append_assoc]; rfl, by rw [List.length_append, List.length_singleton]; omega, rfl⟩
  · rw [if_neg hg]
    repeat (first | refine z_seq ?_ | refine z_region rfl ?_ | refine o_nil ?_ | refine u_seq ?_ | refine o_mov rfl ?_)
    refine o_cmp rfl rfl rfl (fun h => ?_) fun h => absurd (by simpa using h) hg
    repeat (first | refine z_seq ?_ | refine z_region rfl ?_ | refine o_nil ?_ | refine u_seq ?_ | refine z_ct rfl ?_ | refine z_ret ?_ | refine u_ret_seq ?_ | refine o_mov rfl ?_)
    exact u_end ⟨.inr rfl, _, rfl, rfl⟩

end Go.Proofs.Ytoiblgbaeglgoaa
