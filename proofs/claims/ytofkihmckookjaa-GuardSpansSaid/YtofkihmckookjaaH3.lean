/-
  EVENTS OF HANDS: which errors they have.
-/
import Derived.Test.YtofkihmckookjaaH2
namespace Go.Proofs.Ytofkihmckookjaa
open Go Go.Am

def before : Option Int → Int → Bool
  | some q, a => decide (a < q)
  | none, _ => false

def chk : Option Int → List Ev → Int
  | _, [] => 0
  | p, e :: t => if e.1 < 0 ∨ 1000000 < e.1 then 2 else if before p e.1 = true then 9 else chk (some e.1) t

def prevE (l : List Ev) (i : Nat) : Option Int := if i = 0 then none else (l[i - 1]?).map (·.1)

def evErr (l : List Ev) (w : Int) : Int := if 256 < l.length then 5 else if chk none l ≠ 0 then chk none l else if w < 0 ∨ 1000000 < w then 2 else 0

theorem wrap_pred (i : Nat) (h0 : 0 < i) (h : i < 4611686018427387904) : IntKind.wrap .i64 ((i : Int) - 1) = ((i - 1 : Nat) : Int) := by
  rw [wrap_small _ (by omega) (by omega)]; omega

theorem prevE_succ {l : List Ev} {i : Nat} (h : i < l.length) : prevE l (i + 1) = some l[i].1 := by
  unfold prevE
  rw [if_neg (by omega), Nat.add_sub_cancel, List.getElem?_eq_getElem h]
  rfl

-- pneumatic/pneumaticref49.hands
def ic56 : IC := .seq (.region [⟨(some 4), .mov (.c (.int .i64 0)), none⟩] none)
  (.seq (.seq (.region [⟨(some 6), .mov (.t 0), none⟩,
    ⟨(some 7), .len false (.t 6), none⟩,
    ⟨(some 8), .bin .gtr (.t 7) (.c (.int .i64 256)), none⟩] none)
  (.cond (.t 8) (.seq (.region [⟨(some 4), .mov (.c (.int .i64 5)), none⟩] none)
  (.ret))
  (.skip)))
  (.seq (.seq (.region [⟨(some 5), .mov (.c (.int .i64 0)), none⟩] none)
  (.block 0 (.loop (.seq (.seq (.region [⟨(some 9), .mov (.t 5), none⟩,
    ⟨(some 10), .mov (.t 0), none⟩,
    ⟨(some 11), .len false (.t 10), none⟩,
    ⟨(some 12), .bin .lss (.t 9) (.t 11), none⟩] none)
  (.cond (.t 12) (.skip)
  (.exit 0)))
  (.seq (.block 1 (.seq (.seq (.region [⟨(some 15), .mov (.t 0), none⟩,
    ⟨(some 16), .mov (.t 5), none⟩,
    ⟨(some 17), .idxs 3 (.t 15) (.t 16), none⟩,
    ⟨(some 18), .faddr 0 (.t 17), none⟩,
    ⟨(some 19), .load none (.t 18), none⟩,
    ⟨(some 20), .bin .lss (.t 19) (.c (.int .i64 0)), none⟩,
    ⟨(some 21), .mov (.t 20), none⟩,
    ⟨(some 22), .mov (.t 0), some (21, false)⟩,
    ⟨(some 23), .mov (.t 5), some (21, false)⟩,
    ⟨(some 24), .idxs 3 (.t 22) (.t 23), some (21, false)⟩,
    ⟨(some 25), .faddr 0 (.t 24), some (21, false)⟩,
    ⟨(some 26), .load none (.t 25), some (21, false)⟩,
    ⟨(some 27), .bin .gtr (.t 26) (.c (.int .i64 1000000)), some (21, false)⟩,
    ⟨(some 28), .pick (.t 21) (.c (.bool true)) (.t 27), none⟩] none)
  (.cond (.t 28) (.seq (.region [⟨(some 4), .mov (.c (.int .i64 2)), none⟩] none)
  (.ret))
  (.skip)))
  (.seq (.region [⟨(some 29), .mov (.t 5), none⟩,
    ⟨(some 30), .bin .gtr (.t 29) (.c (.int .i64 0)), none⟩,
    ⟨(some 31), .mov (.t 30), none⟩,
    ⟨(some 32), .mov (.t 0), some (31, true)⟩,
    ⟨(some 33), .mov (.t 5), some (31, true)⟩,
    ⟨(some 34), .idxs 3 (.t 32) (.t 33), some (31, true)⟩,
    ⟨(some 35), .faddr 0 (.t 34), some (31, true)⟩,
    ⟨(some 36), .load none (.t 35), some (31, true)⟩,
    ⟨(some 37), .mov (.t 0), some (31, true)⟩,
    ⟨(some 38), .mov (.t 5), some (31, true)⟩,
    ⟨(some 39), .bin .sub (.t 38) (.c (.int .i64 1)), some (31, true)⟩,
    ⟨(some 40), .idxs 3 (.t 37) (.t 39), some (31, true)⟩,
    ⟨(some 41), .faddr 0 (.t 40), some (31, true)⟩,
    ⟨(some 42), .load none (.t 41), some (31, true)⟩,
    ⟨(some 43), .bin .lss (.t 36) (.t 42), some (31, true)⟩,
    ⟨(some 44), .pick (.t 31) (.t 43) (.c (.bool false)), none⟩] (some [[], [0], [1], [2], [2], [3, 4, 2], [5, 2], [6, 2], [2], [2], [9, 2], [8, 10, 2], [11, 2], [12, 2], [7, 13, 2], [2, 14]]))
  (.cond (.t 44) (.seq (.region [⟨(some 4), .mov (.c (.int .i64 9)), none⟩] none)
  (.ret))
  (.skip)))))
  (.region [⟨(some 13), .mov (.t 5), none⟩,
    ⟨(some 14), .bin .add (.t 13) (.c (.int .i64 1)), none⟩,
    ⟨(some 5), .mov (.t 14), none⟩] none))))))
  (.seq (.seq (.region [⟨(some 45), .mov (.t 1), none⟩,
    ⟨(some 46), .bin .lss (.t 45) (.c (.int .i64 0)), none⟩,
    ⟨(some 47), .mov (.t 46), none⟩,
    ⟨(some 48), .mov (.t 1), some (47, false)⟩,
    ⟨(some 49), .bin .gtr (.t 48) (.c (.int .i64 1000000)), some (47, false)⟩,
    ⟨(some 50), .pick (.t 47) (.c (.bool true)) (.t 49), none⟩] none)
  (.cond (.t 50) (.seq (.region [⟨(some 4), .mov (.c (.int .i64 2)), none⟩] none)
  (.ret))
  (.skip)))
  (.seq (.region [⟨(some 4), .mov (.c (.int .i64 0)), none⟩] none)
  (.ret)))))
theorem fn56 : env0.fn 56 = some ⟨51, ic56, [.t 4]⟩ := by kernel_rfl


theorem hands56 (l : List Ev) (w : Int) (hl : l.length ≤ 600) : PF Try.prog 56 [.vs (l.map rowE), .int .i64 w] (.int .i64 (evErr l w)) := by
  have hlen : (l.map rowE).length = l.length := List.length_map ..
  refine PF_of_wpZ env0_ok fn56 (by show 2 ≤ 51; decide) fun w0 N0 => ?_
  refine ⟨fun h1 => ?_, fun h1 => ?_⟩
  · have h2 : 256 < l.length := by
      have : (256 : Int) < ((l.map rowE).length : Int) := by simpa using h1
      omega
    refine ⟨.inr rfl, _, rfl, ?_⟩
    show AV.int .i64 5 = _
    unfold evErr
    rw [if_pos h2]
  have h2 : ¬ 256 < l.length := by
    have : ¬ (256 : Int) < ((l.map rowE).length : Int) := by simpa using h1
    omega
  refine WpZ_loop (fun m S => ∃ i, m = l.length - i ∧ i ≤ l.length ∧ chk none l = chk (prevE l i) (l.drop i) ∧
     S = ⟨51, tmOf [(0, .vs (l.map rowE)), (1, .int .i64 w), (5, .int .i64 (i : Nat))], [], 0, 1, []⟩) l.length
    (Sub0.ren [] rfl rfl rfl rfl List.nodup_nil (fun x hx => absurd hx List.not_mem_nil) ?_) ⟨0, rfl, Nat.zero_le _, rfl, rfl⟩ ?_
  ·
    intro x hx
    simp only [List.mem_cons, List.not_mem_nil, or_false] at hx
    rcases hx with rfl | rfl | rfl
    · exact ⟨_, by first | (dsimp only; rfl) | (simp only [AS.put, lookT_putT, if_true]), .same rfl⟩
    · exact ⟨_, by first | (dsimp only; rfl) | (simp only [AS.put, lookT_putT, if_true]), .same rfl⟩
    · exact ⟨_, by first | (dsimp only; rfl) | (simp only [AS.put, lookT_putT, if_true]), .same rfl⟩
  · rintro m S ⟨i, rfl, hi, hck, rfl⟩
    refine ⟨fun h3 => ?_, fun h3 => ?_⟩
    · have hlt : i < l.length := by
        have : (i : Int) < ((l.map rowE).length : Int) := by simpa using h3
        omega
      have ge : (l.map rowE)[i]? = some (rowE l[i]) := by simp [hlt]
      have hd : l.drop i = l[i] :: l.drop (i + 1) := List.drop_eq_getElem_cons hlt
      rw [hd] at hck
      have ix : ∀ {S : AS} {x y : Arg}, S.arg x = some (.vs (l.map rowE)) → S.arg y = some (.int .i64 (i : Nat)) → iop S (.idxs 3 x y) = some (.vptr (rowE l[i]), S) := fun hx hy => iop_idxs hx hy (Int.natCast_nonneg i) (by rw [Int.toNat_natCast]; exact ge) rfl
      refine ⟨_, _, ix rfl rfl, ?_⟩
      have fin2 : (l[i].1 < 0 ∨ 1000000 < l[i].1) → AV.int .i64 2 = .int .i64 (evErr l w) := fun hx => by
        unfold evErr
        rw [if_neg h2, hck, chk, if_pos hx, if_pos (by decide)]
      have fin9 : ¬ (l[i].1 < 0 ∨ 1000000 < l[i].1) → before (prevE l i) l[i].1 = true → AV.int .i64 9 = .int .i64 (evErr l w) := fun hx hy => by
        unfold evErr
        rw [if_neg h2, hck, chk, if_neg hx, if_pos hy, if_pos (by decide)]
      refine ⟨fun h4 => ?_, fun h4 => ?_⟩
      · have h5 : l[i].1 < 0 := by simpa using h4
        exact ⟨.inr rfl, _, rfl, fin2 (.inl h5)⟩
      have h5 : ¬ l[i].1 < 0 := by simpa using h4
      refine ⟨_, _, ix rfl rfl, ?_⟩
      refine ⟨fun h6 => ?_, fun h6 => ?_⟩
      · have h7 : 1000000 < l[i].1 := by simpa using h6
        exact ⟨.inr rfl, _, rfl, fin2 (.inr h7)⟩
      have h7 : ¬ 1000000 < l[i].1 := by simpa using h6
      have h8 : ¬ (l[i].1 < 0 ∨ 1000000 < l[i].1) := by omega
      have next : before (prevE l i) l[i].1 = false → chk none l = chk (prevE l (i + 1)) (l.drop (i + 1)) := fun hy => by
        rw [hck, chk, if_neg h8, if_neg (by rw [hy]; simp), prevE_succ hlt]
      refine WpT_drawn env0_ok rfl ?_
      refine ⟨fun h9 => ?_, fun h9 => ?_⟩
      · have h0 : 0 < i := by
          have : (0 : Int) < (i : Int) := by simpa using h9
          omega
        have hp : prevE l i = some l[i - 1].1 := by
          unfold prevE
          rw [if_neg (by omega), List.getElem?_eq_getElem (by omega)]; rfl
        have gp : (l.map rowE)[i - 1]? = some (rowE l[i - 1]) := by simp [show i - 1 < l.length by omega]
        refine ⟨_, _, ix rfl rfl, ?_⟩
        refine ⟨_, _, iop_idxs (e := rowE l[i - 1]) rfl rfl (by rw [wrap_pred i h0 (by omega)]; omega) (by rw [wrap_pred i h0 (by omega), Int.toNat_natCast]; exact gp) rfl, ?_⟩
        refine ⟨fun h10 => ?_, fun h10 => ?_⟩
        · have h11 : l[i].1 < l[i - 1].1 := by simpa using h10
          exact ⟨.inr rfl, _, rfl, fin9 h8 (by rw [hp]; simpa [before] using h11)⟩
        · have h11 : ¬ l[i].1 < l[i - 1].1 := by simpa using h10
          refine ⟨l.length - (i + 1), _, by omega, Sub0.ren [] rfl rfl rfl rfl List.nodup_nil (fun x hx => absurd hx List.not_mem_nil) ?_, ⟨i + 1, rfl, hlt, next (by rw [hp]; simpa [before] using h11), rfl⟩⟩
          intro x hx
          simp only [List.mem_cons, List.not_mem_nil, or_false] at hx
          rcases hx with rfl | rfl | rfl
          · exact ⟨_, by first | (dsimp only; rfl) | (simp only [AS.put, lookT_putT, if_true]), .same rfl⟩
          · exact ⟨_, by first | (dsimp only; rfl) | (simp only [AS.put, lookT_putT, if_true]), .same rfl⟩
          · rw [← wrap_succ i (by omega)]
            exact ⟨_, by first | (dsimp only; rfl) | (simp only [AS.put, lookT_putT, if_true]), .same rfl⟩
      · have h0 : i = 0 := by
          have : ¬ (0 : Int) < (i : Int) := by simpa using h9
          omega
        refine ⟨l.length - (i + 1), _, by omega, Sub0.ren [] rfl rfl rfl rfl List.nodup_nil (fun x hx => absurd hx List.not_mem_nil) ?_, ⟨i + 1, rfl, hlt, next (by subst h0; rfl), rfl⟩⟩
        intro x hx
        simp only [List.mem_cons, List.not_mem_nil, or_false] at hx
        rcases hx with rfl | rfl | rfl
        · exact ⟨_, by first | (dsimp only; rfl) | (simp only [AS.put, lookT_putT, if_true]), .same rfl⟩
        · exact ⟨_, by first | (dsimp only; rfl) | (simp only [AS.put, lookT_putT, if_true]), .same rfl⟩
        · rw [← wrap_succ i (by omega)]
          exact ⟨_, by first | (dsimp only; rfl) | (simp only [AS.put, lookT_putT, if_true]), .same rfl⟩
    · have hi2 : i = l.length := by
        have : ¬ (i : Int) < ((l.map rowE).length : Int) := by simpa using h3
        omega
      have hck0 : chk none l = 0 := by rw [hck, hi2, List.drop_length]; rfl
      refine ⟨fun h4 => ?_, fun h4 => ?_⟩
      · have h5 : w < 0 := by simpa using h4
        refine ⟨.inr rfl, _, rfl, ?_⟩
        show AV.int .i64 2 = _
        unfold evErr
        rw [if_neg h2, hck0, if_neg (by decide), if_pos (.inl h5)]
      have h5 : ¬ w < 0 := by simpa using h4
      refine ⟨fun h6 => ?_, fun h6 => ?_⟩
      · have h7 : 1000000 < w := by simpa using h6
        refine ⟨.inr rfl, _, rfl, ?_⟩
        show AV.int .i64 2 = _
        unfold evErr
        rw [if_neg h2, hck0, if_neg (by decide), if_pos (.inr h7)]
      have h7 : ¬ 1000000 < w := by simpa using h6
      refine ⟨.inr rfl, _, rfl, ?_⟩
      show AV.int .i64 0 = _
      unfold evErr
      rw [if_neg h2, hck0, if_neg (by decide), if_neg (by omega)]

end Go.Proofs.Ytofkihmckookjaa
