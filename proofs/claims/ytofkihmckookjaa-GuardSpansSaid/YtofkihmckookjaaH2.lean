/-
  LISTS OF PAIRS: slices.Equal compares them.
-/
import Derived.Test.YtofkihmckookjaaH1
namespace Go.Proofs.Ytofkihmckookjaa
open Go Go.Am

def rowP (h : Int × Int) : List AV := [.int .i64 h.1, .int .i64 h.2]

-- slices.Equal[[][2]int,[2]int]
def ic20 : IC := .seq (.region [⟨(some 4), .mov (.c (.bool false)), none⟩] none)
  (.seq (.seq (.region [⟨(some 6), .mov (.t 0), none⟩,
    ⟨(some 7), .len false (.t 6), none⟩,
    ⟨(some 8), .mov (.t 1), none⟩,
    ⟨(some 9), .len false (.t 8), none⟩,
    ⟨(some 10), .bin .neq (.t 7) (.t 9), none⟩] none)
  (.cond (.t 10) (.seq (.region [⟨(some 4), .mov (.c (.bool false)), none⟩] none)
  (.ret))
  (.skip)))
  (.seq (.seq (.region [⟨(some 11), .mov (.t 0), none⟩,
    ⟨(some 12), .len false (.t 11), none⟩,
    ⟨(some 13), .mov (.c (.int .i64 0)), none⟩] none)
  (.block 0 (.loop (.seq (.region [⟨(some 14), .bin .lss (.t 13) (.t 12), none⟩] none)
  (.seq (.cond (.t 14) (.skip)
  (.exit 0))
  (.seq (.block 1 (.seq (.region [⟨(some 15), .mov (.t 13), none⟩,
    ⟨(some 5), .mov (.t 15), none⟩] none)
  (.seq (.region [⟨(some 16), .mov (.t 0), none⟩,
    ⟨(some 17), .mov (.t 5), none⟩,
    ⟨(some 18), .idxs 2 (.t 16) (.t 17), none⟩,
    ⟨(some 19), .load (some 2) (.t 18), none⟩,
    ⟨(some 20), .mov (.t 1), none⟩,
    ⟨(some 21), .mov (.t 5), none⟩,
    ⟨(some 22), .idxs 2 (.t 20) (.t 21), none⟩,
    ⟨(some 23), .load (some 2) (.t 22), none⟩,
    ⟨(some 24), .eqs true [(0, .int), (1, .int)] (.t 19) (.t 23), none⟩] (some [[], [], [0, 1], [2], [], [], [4, 5], [6], [3, 7]]))
  (.cond (.t 24) (.seq (.region [⟨(some 4), .mov (.c (.bool false)), none⟩] none)
  (.ret))
  (.skip)))))
  (.region [⟨(some 25), .bin .add (.t 13) (.c (.int .i64 1)), none⟩,
    ⟨(some 13), .mov (.t 25), none⟩] none)))))))
  (.seq (.region [⟨(some 4), .mov (.c (.bool true)), none⟩] none)
  (.ret))))
theorem fn20 : env0.fn 20 = some ⟨26, ic20, [.t 4]⟩ := by kernel_rfl

theorem equal20 (a b : List (Int × Int)) (ha : a.length ≤ 100000) : PF Try.prog 20 [.vs (a.map rowP), .vs (b.map rowP)] (.bool (decide (a = b))) := by
  refine PF_of_wpZ env0_ok fn20 (by show 2 ≤ 26; decide) fun w0 N0 => ?_
  refine ⟨fun h1 => ?_, fun h1 => ?_⟩
  · have hne : a ≠ b := by
      rintro rfl
      simp at h1
    refine ⟨.inr rfl, _, rfl, ?_⟩
    show AV.bool false = _
    rw [decide_eq_false hne]
  have hab : a.length = b.length := by
    have : ((a.map rowP).length : Int) = ((b.map rowP).length : Int) := by simpa using h1
    simp at this; omega
  refine WpZ_loop (fun m S => ∃ i, m = a.length - i ∧ i ≤ a.length ∧ a.take i = b.take i ∧
     S = ⟨26, tmOf [(0, .vs (a.map rowP)), (1, .vs (b.map rowP)), (12, .int .i64 (a.map rowP).length), (13, .int .i64 (i : Nat))], [], 0, 1, []⟩) a.length
    (Sub0.ren [] rfl rfl rfl rfl List.nodup_nil (fun x hx => absurd hx List.not_mem_nil) ?_) ⟨0, rfl, Nat.zero_le _, rfl, rfl⟩ ?_
  · intro x hx
    simp only [List.mem_cons, List.not_mem_nil, or_false] at hx
    rcases hx with rfl | rfl | rfl | rfl
    all_goals exact ⟨_, by first | (dsimp only; rfl) | (simp only [AS.put, lookT_putT, if_true]), .same rfl⟩
  · rintro m S ⟨i, rfl, hi, heq, rfl⟩
    refine ⟨fun h1 => ?_, fun h1 => ?_⟩
    · have hlt : i < a.length := by simpa using h1
      have hlt2 : i < b.length := by omega
      have ga : (a.map rowP)[i]? = some (rowP a[i]) := by simp [hlt]
      have gb : (b.map rowP)[i]? = some (rowP b[i]) := by simp [hlt2]
      refine WpT_drawn env0_ok rfl ?_
      refine ⟨_, _, iop_idxs rfl rfl (Int.natCast_nonneg i) (e := rowP a[i]) (by rw [Int.toNat_natCast]; exact ga) rfl, ?_⟩
      refine ⟨_, _, iop_idxs rfl rfl (Int.natCast_nonneg i) (e := rowP b[i]) (by rw [Int.toNat_natCast]; exact gb) rfl, ?_⟩
      refine ⟨⟨rfl, rfl⟩, fun h2 => ?_, fun h2 => ?_⟩
      · have hne : a ≠ b := by
          rintro rfl
          simp at h2
        refine ⟨.inr rfl, _, rfl, ?_⟩
        show AV.bool false = _
        rw [decide_eq_false hne]
      · have he : a[i] = b[i] := by
          have h3 : a[i].1 = b[i].1 ∧ a[i].2 = b[i].2 := by simpa using h2
          exact Prod.ext h3.1 h3.2
        refine ⟨a.length - (i + 1), _, by omega, Sub0.ren [] rfl rfl rfl rfl List.nodup_nil (fun x hx => absurd hx List.not_mem_nil) ?_, ⟨i + 1, rfl, hlt, ?_, rfl⟩⟩
        · intro x hx
          simp only [List.mem_cons, List.not_mem_nil, or_false] at hx
          rcases hx with rfl | rfl | rfl | rfl
          · exact ⟨_, by first | (dsimp only; rfl) | (simp only [AS.put, lookT_putT, if_true]), .same rfl⟩
          · exact ⟨_, by first | (dsimp only; rfl) | (simp only [AS.put, lookT_putT, if_true]), .same rfl⟩
          · exact ⟨_, by first | (dsimp only; rfl) | (simp only [AS.put, lookT_putT, if_true]), .same rfl⟩
          · rw [← wrap_succ i (by omega)]
            exact ⟨_, by first | (dsimp only; rfl) | (simp only [AS.put, lookT_putT, if_true]), .same rfl⟩
        · rw [List.take_succ_eq_append_getElem hlt, List.take_succ_eq_append_getElem hlt2, heq, he]
    · have hi2 : i = a.length := by
        have : ¬ i < a.length := by simpa using h1
        omega
      subst hi2
      have : a = b := by
        rw [List.take_length, hab, List.take_length] at heq
        exact heq
      refine ⟨.inr rfl, _, rfl, ?_⟩
      show AV.bool true = _
      rw [decide_eq_true this]

end Go.Proofs.Ytofkihmckookjaa
