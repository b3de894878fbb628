/-
  EVENTS OF HANDS: the list is copied as it is.
-/
import Derived.Test.YtofkihmckookjaaBase
import Derived.Test.YtofkihmckookjaaA8
namespace Go.Proofs.Ytofkihmckookjaa
open Go Go.Am

abbrev Ev := Int × Bool × Bool

def rowE (h : Ev) : List AV := [.int .i64 h.1, .bool h.2.1, .bool h.2.2]

-- pneumatic/pneumaticlaw49.hands
def ic19 : IC := .seq (.region [⟨(some 2), .mov (.c (.nils)), none⟩] none)
  (.seq (.region [⟨(some 3), .mov (.c (.nils)), none⟩] none)
  (.seq (.seq (.region [⟨(some 6), .mov (.t 0), none⟩,
    ⟨(some 7), .len false (.t 6), none⟩,
    ⟨(some 8), .mov (.c (.int .i64 0)), none⟩] none)
  (.block 0 (.loop (.seq (.region [⟨(some 9), .bin .lss (.t 8) (.t 7), none⟩] none)
  (.seq (.cond (.t 9) (.skip)
  (.exit 0))
  (.seq (.block 1 (.seq (.region [⟨(some 10), .idxs 3 (.t 6) (.t 8), none⟩,
    ⟨(some 11), .load (some 3) (.t 10), none⟩,
    ⟨(some 5), .alloc [.int .i64 0, .bool false, .bool false], none⟩,
    ⟨none, .store 3 (.t 5) (.t 11), none⟩] none)
  (.region [⟨(some 12), .mov (.t 3), none⟩,
    ⟨(some 13), .load (some 3) (.t 5), none⟩,
    ⟨(some 14), .bslice 3 1 [.int .i64 0, .bool false, .bool false] [(0, 3, (.t 13))], none⟩,
    ⟨(some 15), .append 3 16 [.int .i64 0, .bool false, .bool false] (.t 12) (.t 14), none⟩,
    ⟨(some 3), .mov (.t 15), none⟩] none)))
  (.region [⟨(some 16), .bin .add (.t 8) (.c (.int .i64 1)), none⟩,
    ⟨(some 8), .mov (.t 16), none⟩] none)))))))
  (.seq (.region [⟨(some 17), .mov (.t 3), none⟩,
    ⟨(some 2), .mov (.t 17), none⟩] none)
  (.ret))))
theorem fn19 : env0.fn 19 = some ⟨18, ic19, [.t 2]⟩ := by kernel_rfl

theorem hands19 (l : List Ev) (hl : l.length ≤ 600) : PF Try.prog 19 [.vs (l.map rowE)] (.vs (l.map rowE)) := by
  refine PF_of_wpZ env0_ok fn19 (by show 1 ≤ 18; decide) fun w0 N0 => ?_
  have hlen : ((l.map rowE).length : Int) = (l.length : Int) := by simp
  refine WpZ_loop (fun m S => ∃ i, m = l.length - i ∧ i ≤ l.length ∧
    ((i = 0 ∧ S = ⟨18, tmOf [(3, .nils), (6, .vs (l.map rowE)), (7, .int .i64 (l.map rowE).length), (8, .int .i64 (i : Nat))], [], 0, 1, []⟩) ∨
     (0 < i ∧ S = ⟨18, tmOf [(3, .ms 0 0 3 0 ((l.map rowE).take i).length none), (6, .vs (l.map rowE)), (7, .int .i64 (l.map rowE).length), (8, .int .i64 (i : Nat))], [(0, 0, .cells ((l.map rowE).take i).flatten)], 1, 1, []⟩))) l.length
    (Sub0.ren [] rfl rfl rfl rfl List.nodup_nil (fun x hx => absurd hx List.not_mem_nil) ?_) ⟨0, rfl, Nat.zero_le _, .inl ⟨rfl, rfl⟩⟩ ?_
  · intro x hx
    simp only [List.mem_cons, List.not_mem_nil, or_false] at hx
    rcases hx with rfl | rfl | rfl | rfl
    all_goals exact ⟨_, by first | (dsimp only; rfl) | (simp only [AS.put, lookT_putT, if_true]), .same rfl⟩
  · rintro m S ⟨i, rfl, hi, ⟨rfl, rfl⟩ | ⟨h0, rfl⟩⟩
    · refine ⟨fun h1 => ?_, fun h1 => ?_⟩
      · have hlt : 0 < l.length := by simpa using h1
        obtain ⟨e, l', rfl⟩ : ∃ e l', l = e :: l' := by
          cases l with
          | nil => simp at hlt
          | cons e l' => exact ⟨e, l', rfl⟩
        refine ⟨_, _, iop_idxs rfl rfl (Int.le_refl _) (e := rowE e) rfl rfl, ?_⟩
        refine ⟨_, _, rfl, ?_⟩
        refine ⟨_, _, rfl, ?_⟩
        refine ⟨l'.length, _, Nat.lt_succ_self _, Sub0.ren [(2, 3, rowE e)] rfl rfl rfl rfl (by simp) ?_ ?_, ⟨1, rfl, Nat.succ_le_succ (Nat.zero_le _), .inr ⟨Nat.one_pos, rfl⟩⟩⟩
        · intro x hx
          obtain rfl := List.mem_singleton.1 hx
          exact ⟨_, rfl, rfl, ren_keep rfl⟩
        · intro x hx
          simp only [List.mem_cons, List.not_mem_nil, or_false] at hx
          rcases hx with rfl | rfl | rfl | rfl
          · exact ⟨_, by first | (dsimp only; rfl) | (simp only [AS.put, lookT_putT, if_true]), .ms rfl⟩
          all_goals exact ⟨_, by first | (dsimp only; rfl) | (simp only [AS.put, lookT_putT, if_true]), .same rfl⟩
      · have : l = [] := by simpa using h1
        subst this
        exact ⟨.inr rfl, _, rfl, rfl⟩
    · refine ⟨fun h1 => ?_, fun h1 => ?_⟩
      · have hlt : i < l.length := by simpa using h1
        have hget : (l.map rowE)[i]? = some (rowE l[i]) := by simp [hlt]
        refine ⟨_, _, iop_idxs rfl rfl (Int.natCast_nonneg i) (e := rowE l[i]) (by rw [Int.toNat_natCast]; exact hget) rfl, ?_⟩
        refine ⟨_, _, rfl, ?_⟩
        have hsz : ∀ x ∈ (l.map rowE).take i, x.length = 3 := fun x hx => by
          obtain ⟨e, _, rfl⟩ := List.mem_map.1 (List.mem_of_mem_take hx)
          rfl
        have hM : ∀ x ∈ (l.map rowE).take i, hasM.hasML x = false := fun x hx => by
          obtain ⟨e, _, rfl⟩ := List.mem_map.1 (List.mem_of_mem_take hx)
          rfl
        have hlen2 : ((l.map rowE).take i).length = i := by rw [List.length_take, List.length_map]; omega
        have ht : (l.map rowE).take (i + 1) = (l.map rowE).take i ++ [rowE l[i]] := by
          rw [List.take_add_one, hget]; rfl
        refine ⟨_, _, iop_append_ms (es := [rowE l[i]]) rfl rfl rfl (by simp) rfl (by decide) rfl (flat_length hsz).symm (by rw [hlen2]; show i + 1 ≤ _; omega), ?_⟩
        refine ⟨l.length - (i + 1), _, by omega, Sub0.ren [(0, 3, ((l.map rowE).take (i + 1)).flatten)] rfl rfl rfl rfl (by simp) ?_ ?_, ⟨i + 1, rfl, hlt, .inr ⟨Nat.succ_pos _, rfl⟩⟩⟩
        · intro x hx
          obtain rfl := List.mem_singleton.1 hx
          refine ⟨_, rfl, ?_, ?_⟩
          · rw [ht, List.flatten_append]
          · rw [ht, List.flatten_append]
            exact ren_keep (hasML_append (hasML_flat hM) rfl)
        · intro x hx
          simp only [List.mem_cons, List.not_mem_nil, or_false] at hx
          rcases hx with rfl | rfl | rfl | rfl
          · have e : ((l.map rowE).take (i + 1)).length = ((l.map rowE).take i).length + 1 := by rw [ht]; simp
            rw [e]
            exact ⟨_, by first | (dsimp only; rfl) | (simp only [AS.put, lookT_putT, if_true]), .ms rfl⟩
          · exact ⟨_, by first | (dsimp only; rfl) | (simp only [AS.put, lookT_putT, if_true]), .same rfl⟩
          · exact ⟨_, by first | (dsimp only; rfl) | (simp only [AS.put, lookT_putT, if_true]), .same rfl⟩
          · rw [← wrap_succ i (by omega)]
            exact ⟨_, by first | (dsimp only; rfl) | (simp only [AS.put, lookT_putT, if_true]), .same rfl⟩
      · have : i = l.length := by
          have : ¬ i < l.length := by simpa using h1
          omega
        subst this
        refine ⟨.inr rfl, _, rfl, ?_⟩
        have e : (l.map rowE).take l.length = l.map rowE := List.take_of_length_le (by simp)
        refine (view_ms (xs := (l.map rowE).take l.length) rfl rfl (by rw [e]; exact fun x hx => by obtain ⟨_, _, rfl⟩ := List.mem_map.1 hx; rfl)).trans ?_
        rw [e]
        congr 1
        rw [List.map_map]
        exact List.map_congr_left fun _ _ => rfl

end Go.Proofs.Ytofkihmckookjaa
