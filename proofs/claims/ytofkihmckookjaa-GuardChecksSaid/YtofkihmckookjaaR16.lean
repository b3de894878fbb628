/-
  POSITIONS OF A GUARD: the switches of ends.
-/
import Derived.Test.YtofkihmckookjaaR15
namespace Go.Proofs.Ytofkihmckookjaa
open Go Go.Am

def vsI (l : List Int) : AV := .vs (l.map fun z => [.int .i64 z])

def sw : List Int → List Bool
  | [] => []
  | z :: zs => (z == 0) :: (z == 2) :: sw zs

theorem sw_append (a b : List Int) : sw (a ++ b) = sw a ++ sw b := by
  induction a with
  | nil => rfl
  | cons z zs ih => simp [sw, ih]

theorem sw_length (l : List Int) : (sw l).length = 2 * l.length := by
  induction l with
  | nil => rfl
  | cons z zs ih => simp only [sw, List.length_cons, ih]; omega

theorem vsI_get (l : List Int) (i : Nat) (h : i < l.length) : (l.map fun z => ([.int .i64 z] : List AV))[((i : Nat) : Int).toNat]? = some [.int .i64 l[i]] := by
  rw [Int.toNat_natCast, List.getElem?_map, List.getElem?_eq_getElem h]
  rfl

theorem hasML_bools : ∀ l : List Bool, hasM.hasML (l.map AV.bool) = false
  | [] => rfl
  | b :: l => by
    have := hasML_bools l
    simpa [hasM.hasML, hasM] using this

theorem view_bools {S : AS} {d : Nat} (l : List Bool) (hl : Am.look 0 S.heap = some (0, .cells (l.map AV.bool))) : S.view (d + 2) (.ms 0 0 1 0 l.length none) = vsB l := by
  have hf : l.map AV.bool = (l.map fun b => ([.bool b] : List AV)).flatten := by
    clear hl
    induction l with
    | nil => rfl
    | cons b l ih => simp [ih]
  have := view_ms (d := d + 1) (S := S) (id := 0) (st := 0) (sz := 1) (xs := l.map fun b => ([.bool b] : List AV)) hl hf (fun x hx => by obtain ⟨b, _, rfl⟩ := List.mem_map.1 hx; rfl)
  rw [List.length_map] at this
  rw [this]
  unfold vsB
  congr 1
  rw [List.map_map]
  exact List.map_congr_left fun _ _ => rfl

def body85 : IC := .seq (.seq (.region [⟨(some 5), .mov (.t 4), none⟩,
    ⟨(some 6), .mov (.t 0), none⟩,
    ⟨(some 7), .len false (.t 6), none⟩,
    ⟨(some 8), .bin .lss (.t 5) (.t 7), none⟩] none)
  (.cond (.t 8) (.skip)
  (.exit 0)))
  (.seq (.block 1 (.region [⟨(some 11), .mov (.t 3), none⟩,
    ⟨(some 12), .mov (.t 0), none⟩,
    ⟨(some 13), .mov (.t 4), none⟩,
    ⟨(some 14), .idxs 1 (.t 12) (.t 13), none⟩,
    ⟨(some 15), .load none (.t 14), none⟩,
    ⟨(some 16), .bin .eql (.t 15) (.c (.int .i64 0)), none⟩,
    ⟨(some 17), .mov (.t 0), none⟩,
    ⟨(some 18), .mov (.t 4), none⟩,
    ⟨(some 19), .idxs 1 (.t 17) (.t 18), none⟩,
    ⟨(some 20), .load none (.t 19), none⟩,
    ⟨(some 21), .bin .eql (.t 20) (.c (.int .i64 2)), none⟩,
    ⟨(some 22), .bslice 1 2 [.bool false, .bool false] [(0, 1, (.t 16)), (1, 1, (.t 21))], none⟩,
    ⟨(some 23), .append 1 1 [.bool false] (.t 11) (.t 22), none⟩,
    ⟨(some 3), .mov (.t 23), none⟩] (some [[], [], [], [1, 2], [3], [4], [], [], [6, 7], [8], [9], [5, 10], [0, 11], [12, 12, 0, 1, 2, 3, 4, 5, 6, 7, 8, 9, 10, 11, 12]])))
  (.region [⟨(some 9), .mov (.t 4), none⟩,
    ⟨(some 10), .bin .add (.t 9) (.c (.int .i64 1)), none⟩,
    ⟨(some 4), .mov (.t 10), none⟩] none))

-- pneumatic/pneumaticref49.Switches
def ic85 : IC := .seq (.region [⟨(some 2), .mov (.c (.nils)), none⟩] none)
  (.seq (.region [⟨(some 3), .mov (.c (.nils)), none⟩] none)
  (.seq (.seq (.region [⟨(some 4), .mov (.c (.int .i64 0)), none⟩] none)
  (.block 0 (.loop body85)))
  (.seq (.region [⟨(some 24), .mov (.t 3), none⟩,
    ⟨(some 2), .mov (.t 24), none⟩] none)
  (.ret))))
theorem fn85 : env0.fn 85 = some ⟨25, ic85, [.t 2]⟩ := by kernel_rfl


set_option maxHeartbeats 2000000 in
theorem switches85 (l : List Int) (h0 : 0 < l.length) (hl : l.length ≤ 600) : PF Try.prog 85 [vsI l] (vsB (sw l)) := by
  have hcl : (l.map fun z => ([.int .i64 z] : List AV)).length = l.length := List.length_map ..
  refine PF_of_Z env0_ok fn85 [(0, vsI l)] (by show 1 ≤ 25; decide) rfl fun w0 N0 => ?_
  unfold ic85
  repeat (first | refine z_seq ?_ | refine z_region rfl ?_ | refine o_nil ?_ | refine u_seq ?_ | refine z_block ?_ | refine o_mov rfl ?_)
  refine z_loop (fun mm S => ∃ i, mm = l.length - i ∧ i ≤ l.length ∧
      ((i = 0 ∧ S = st 25 [(0, vsI l), (3, .nils), (4, .int .i64 (i : Nat))] [] 0 1) ∨
       ∃ k cs, k = cs.length ∧ cs = (sw (l.take i)).map AV.bool ∧ S = st 25 [(0, vsI l), (3, .ms 0 0 1 0 k none), (4, .int .i64 (i : Nat))] [(0, 0, .cells cs)] 1 1)) l.length
    (sub_ren0 (.cons rfl (.same rfl) (.cons rfl (.same rfl) (.cons rfl (.same rfl) .nil)))) ⟨0, rfl, Nat.zero_le _, .inl ⟨rfl, rfl⟩⟩ ?_
  rintro mm S ⟨i, rfl, hi, ⟨rfl, rfl⟩ | ⟨k, cs, hk, hcs, rfl⟩⟩
  · unfold body85
    repeat (first | refine z_seq ?_ | refine z_region rfl ?_ | refine o_mov rfl ?_ | refine o_len rfl rfl ?_)
    refine o_cmp rfl rfl rfl (fun h3 => ?_) fun h3 => ?_
    · have hge := vsI_get l 0 h0
      have ht : l.take (0 + 1) = [l[0]] := by
        cases l with
        | nil => simp at h0
        | cons a t => rfl
      generalize l[0] = z at hge ht
      repeat (first | refine z_seq ?_ | refine o_nil ?_ | refine u_seq ?_ | refine z_block ?_ | refine z_skip ?_ | refine z_ct rfl ?_ | refine o_mov rfl ?_ | refine z_drawn0 env0_ok rfl rfl rfl ?_)
      refine o_idxs rfl rfl (Int.natCast_nonneg 0) hge rfl ?_
      repeat (first | refine o_load rfl rfl ?_)
      refine o_bin (op := .eql) rfl rfl rfl ?_
      repeat (first | refine o_mov rfl ?_)
      refine o_idxs rfl rfl (Int.natCast_nonneg 0) hge rfl ?_
      repeat (first | refine o_load rfl rfl ?_)
      refine o_bin (op := .eql) rfl rfl rfl ?_
      repeat (first | refine z_region rfl ?_ | refine o_nil ?_ | refine u_seq ?_ | refine u_blk ?_ | refine o_mov rfl ?_ | refine o_bslice rfl rfl ?_ | refine o_append rfl rfl rfl rfl ?_ | refine o_bin (op := .add) rfl rfl rfl ?_)
      exact u_round (show l.length - (0 + 1) < l.length - 0 by omega) (sub_ren [(1, _, [.bool (z == 0), .bool (z == 2)])] rfl rfl (by simp) (.cons rfl rfl (ren_keep rfl) .nil) (.cons rfl (.same rfl) (.cons rfl (.ms rfl) (.cons rfl (.same rfl) .nil)))) ⟨0 + 1, rfl, h0, .inr ⟨2, _, rfl, by rw [ht]; rfl, rfl⟩⟩
    · have := of_decide_eq_false h3
      rw [hcl] at this
      exact absurd h0 (by omega)
  · unfold body85
    repeat (first | refine z_seq ?_ | refine z_region rfl ?_ | refine o_mov rfl ?_ | refine o_len rfl rfl ?_)
    refine o_cmp rfl rfl rfl (fun h3 => ?_) fun h3 => ?_
    · have hlt : i < l.length := by
        have := of_decide_eq_true h3
        rw [hcl] at this
        omega
      have hge := vsI_get l i hlt
      have ht : l.take (i + 1) = l.take i ++ [l[i]] := by rw [List.take_add_one, List.getElem?_eq_getElem hlt]; rfl
      generalize l[i] = z at hge ht
      have hlk : cs.length ≤ 1200 := by rw [hcs, List.length_map, sw_length, List.length_take]; omega
      have hM : hasM.hasML cs = false := by rw [hcs]; exact hasML_bools _
      repeat (first | refine z_seq ?_ | refine o_nil ?_ | refine u_seq ?_ | refine z_block ?_ | refine z_skip ?_ | refine z_ct rfl ?_ | refine o_mov rfl ?_ | refine z_drawn0 env0_ok rfl rfl rfl ?_)
      refine o_idxs rfl rfl (Int.natCast_nonneg i) hge rfl ?_
      repeat (first | refine o_load rfl rfl ?_)
      refine o_bin (op := .eql) rfl rfl rfl ?_
      repeat (first | refine o_mov rfl ?_)
      refine o_idxs rfl rfl (Int.natCast_nonneg i) hge rfl ?_
      repeat (first | refine o_load rfl rfl ?_)
      refine o_bin (op := .eql) rfl rfl rfl ?_
      repeat (first | refine o_bslice rfl rfl ?_)
      refine o_append_ms [[.bool (z == 0)], [.bool (z == 2)]] rfl rfl rfl (fun h => Nat.noConfusion h) rfl (by decide) rfl (by rw [hk]; omega) (by rw [hk]; show cs.length + 2 ≤ _; omega) ?_
      repeat (first | refine z_region rfl ?_ | refine o_nil ?_ | refine u_seq ?_ | refine u_blk ?_ | refine o_mov rfl ?_ | refine o_bin (op := .add) rfl rfl rfl ?_)
      exact u_round (show l.length - (i + 1) < l.length - i by omega) (sub_ren [(0, _, cs ++ [.bool (z == 0), .bool (z == 2)])] rfl rfl (by simp) (.cons rfl rfl (ren_keep (hasML_append hM rfl)) .nil) (.cons rfl (.same rfl) (.cons rfl (.ms rfl) (.cons rfl (ren_eq (congrArg (AV.int .i64) (wrap_succ i (by omega))) rfl) .nil)))) ⟨i + 1, rfl, hlt, .inr ⟨k + 2, _, by rw [List.length_append, hk]; rfl, by rw [ht, sw_append, List.map_append, hcs]; rfl, rfl⟩⟩
    · have hi2 : i = l.length := by
        have := of_decide_eq_false h3
        rw [hcl] at this
        omega
      repeat (first | refine o_nil ?_ | refine u_seq ?_ | refine z_cf rfl ?_ | refine z_exit ?_ | refine u_exit_seq ?_)
      refine u_out ?_
      repeat (first | refine z_seq ?_ | refine z_region rfl ?_ | refine o_nil ?_ | refine u_seq ?_ | refine z_ret ?_ | refine u_exit ?_ | refine o_mov rfl ?_)
      have hfin : cs = (sw l).map AV.bool := by rw [hcs, hi2, List.take_length]
      refine u_end ⟨.inr rfl, _, rfl, ?_⟩
      subst hfin
      rw [List.length_map] at hk
      subst hk
      exact view_bools (sw l) rfl

end Go.Proofs.Ytofkihmckookjaa
