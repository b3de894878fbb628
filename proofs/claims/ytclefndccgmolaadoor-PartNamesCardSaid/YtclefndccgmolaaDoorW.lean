/-
  WORDS AND NAMES: what lexer.run, lexer.Word, the reference's Word, both Checks and the law of names return for every kind, text and part.
-/
import Derived.Test.YtclefndccgmolaaDoorIx
import Derived.Test.YtclefndccgmolaaDoorN2
namespace Go.Proofs.YtclefndccgmolaaDoor
open Go Go.Am

def ic52 : IC := .seq (.region [⟨(some 2), .mov (.c (.int .i64 0)), none⟩] none)
  (.seq (.seq (.region [⟨(some 4), .mov (.t 0), none⟩,
    ⟨(some 5), .len true (.t 4), none⟩,
    ⟨(some 6), .bin .eql (.t 5) (.c (.int .i64 0)), none⟩,
    ⟨(some 7), .mov (.t 6), none⟩,
    ⟨(some 8), .mov (.t 0), some (7, false)⟩,
    ⟨(some 9), .idxstr (.t 8) (.c (.int .i64 0)), some (7, false)⟩,
    ⟨(some 10), .call (.c (.fn 71 [] [])) [(.t 9)], some (7, false)⟩,
    ⟨(some 11), .un .not (.t 10), some (7, false)⟩,
    ⟨(some 12), .pick (.t 7) (.c (.bool true)) (.t 11), none⟩] none)
  (.cond (.t 12) (.seq (.region [⟨(some 2), .mov (.c (.int .i64 3)), none⟩] none)
  (.ret))
  (.skip)))
  (.seq (.seq (.region [⟨(some 3), .mov (.c (.int .i64 0)), none⟩] none)
  (.block 0 (.loop (.seq (.seq (.region [⟨(some 13), .mov (.t 3), none⟩,
    ⟨(some 14), .mov (.t 0), none⟩,
    ⟨(some 15), .len true (.t 14), none⟩,
    ⟨(some 16), .bin .lss (.t 13) (.t 15), none⟩] none)
  (.cond (.t 16) (.skip)
  (.exit 0)))
  (.seq (.block 1 (.seq (.region [⟨(some 19), .mov (.t 0), none⟩,
    ⟨(some 20), .mov (.t 3), none⟩,
    ⟨(some 21), .idxstr (.t 19) (.t 20), none⟩,
    ⟨(some 22), .call (.c (.fn 72 [] [])) [(.t 21)], none⟩,
    ⟨(some 23), .un .not (.t 22), none⟩] none)
  (.cond (.t 23) (.seq (.region [⟨(some 2), .mov (.c (.int .i64 3)), none⟩] none)
  (.ret))
  (.skip))))
  (.region [⟨(some 17), .mov (.t 3), none⟩,
    ⟨(some 18), .bin .add (.t 17) (.c (.int .i64 1)), none⟩,
    ⟨(some 3), .mov (.t 18), none⟩] none))))))
  (.seq (.seq (.region [⟨(some 24), .mov (.t 0), none⟩,
    ⟨(some 25), .len true (.t 24), none⟩,
    ⟨(some 26), .bin .gtr (.t 25) (.c (.int .i64 24)), none⟩] none)
  (.cond (.t 26) (.seq (.region [⟨(some 2), .mov (.c (.int .i64 17)), none⟩] none)
  (.ret))
  (.skip)))
  (.seq (.region [⟨(some 2), .mov (.c (.int .i64 0)), none⟩] none)
  (.ret)))))
theorem fn52 : env0.fn 52 = some ⟨27, ic52, [.t 2]⟩ := by kernel_rfl

def ic70 : IC := .seq (.region [⟨(some 4), .mov (.c (.int .i64 0)), none⟩] none)
  (.seq (.seq (.region [⟨(some 9), .mov (.t 0), none⟩,
    ⟨(some 10), .len true (.t 9), none⟩,
    ⟨(some 11), .mov (.c (.int .i64 0)), none⟩] none)
  (.block 0 (.loop (.seq (.region [⟨(some 12), .bin .lss (.t 11) (.t 10), none⟩] none)
  (.seq (.cond (.t 12) (.skip)
  (.exit 0))
  (.seq (.block 1 (.seq (.region [⟨(some 13), .mov (.t 11), none⟩,
    ⟨(some 5), .mov (.t 13), none⟩] none)
  (.seq (.region [⟨(some 6), .mov (.c (.bool false)), none⟩] none)
  (.seq (.seq (.region [⟨(some 14), .mov (.t 1), none⟩,
    ⟨(some 15), .len false (.t 14), none⟩,
    ⟨(some 16), .mov (.c (.int .i64 0)), none⟩] none)
  (.block 2 (.loop (.seq (.region [⟨(some 17), .bin .lss (.t 16) (.t 15), none⟩] none)
  (.seq (.cond (.t 17) (.skip)
  (.exit 2))
  (.seq (.block 3 (.seq (.region [⟨(some 18), .idxs 1 (.t 14) (.t 16), none⟩,
    ⟨(some 19), .load none (.t 18), none⟩,
    ⟨(some 8), .mov (.t 19), none⟩] none)
  (.region [⟨(some 20), .mov (.t 6), none⟩,
    ⟨(some 21), .mov (.t 20), none⟩,
    ⟨(some 22), .mov (.t 0), some (21, false)⟩,
    ⟨(some 23), .mov (.t 5), some (21, false)⟩,
    ⟨(some 24), .idxstr (.t 22) (.t 23), some (21, false)⟩,
    ⟨(some 25), .call (.c (.fn 69 [] [])) [(.t 24)], some (21, false)⟩,
    ⟨(some 26), .mov (.t 8), some (21, false)⟩,
    ⟨(some 27), .bin .eql (.t 25) (.t 26), some (21, false)⟩,
    ⟨(some 28), .pick (.t 21) (.c (.bool true)) (.t 27), none⟩,
    ⟨(some 6), .mov (.t 28), none⟩] none)))
  (.region [⟨(some 29), .bin .add (.t 16) (.c (.int .i64 1)), none⟩,
    ⟨(some 16), .mov (.t 29), none⟩] none)))))))
  (.seq (.region [⟨(some 30), .mov (.t 6), none⟩,
    ⟨(some 31), .un .not (.t 30), none⟩] none)
  (.cond (.t 31) (.seq (.region [⟨(some 32), .mov (.t 5), none⟩,
    ⟨(some 4), .mov (.t 32), none⟩] none)
  (.ret))
  (.skip)))))))
  (.region [⟨(some 33), .bin .add (.t 11) (.c (.int .i64 1)), none⟩,
    ⟨(some 11), .mov (.t 33), none⟩] none)))))))
  (.seq (.region [⟨(some 34), .mov (.t 0), none⟩,
    ⟨(some 35), .len true (.t 34), none⟩,
    ⟨(some 4), .mov (.t 35), none⟩] none)
  (.ret)))
theorem fn70 : env0.fn 70 = some ⟨36, ic70, [.t 4]⟩ := by kernel_rfl

def ic51 : IC := .seq (.region [⟨(some 2), .mov (.c (.int .i64 0)), none⟩] none)
  (.seq (.block 0 (.seq (.region [⟨(some 4), .mov (.t 0), none⟩,
    ⟨(some 5), .bin .eql (.t 4) (.c (.str [])), none⟩,
    ⟨(some 6), .mov (.t 5), none⟩,
    ⟨(some 7), .mov (.t 0), some (6, false)⟩,
    ⟨(some 8), .idxstr (.t 7) (.c (.int .i64 0)), some (6, false)⟩,
    ⟨(some 9), .call (.c (.fn 69 [] [])) [(.t 8)], some (6, false)⟩,
    ⟨(some 10), .bin .neq (.t 9) (.c (.int .i64 1)), some (6, false)⟩,
    ⟨(some 11), .pick (.t 6) (.c (.bool true)) (.t 10), none⟩,
    ⟨(some 12), .mov (.t 11), none⟩,
    ⟨(some 13), .mov (.t 0), some (12, false)⟩,
    ⟨(some 14), .bslice 1 3 [.int .i64 0, .int .i64 0, .int .i64 0] [(0, 1, (.c (.int .i64 1))), (1, 1, (.c (.int .i64 2))), (2, 1, (.c (.int .i64 3)))], some (12, false)⟩,
    ⟨(some 15), .call (.c (.fn 70 [] [])) [(.t 13), (.t 14)], some (12, false)⟩,
    ⟨(some 16), .mov (.t 0), some (12, false)⟩,
    ⟨(some 17), .len true (.t 16), some (12, false)⟩,
    ⟨(some 18), .bin .neq (.t 15) (.t 17), some (12, false)⟩,
    ⟨(some 19), .pick (.t 12) (.c (.bool true)) (.t 18), none⟩,
    ⟨(some 3), .mov (.t 19), none⟩] none)
  (.cond (.t 3) (.seq (.region [⟨(some 2), .mov (.c (.int .i64 3)), none⟩] none)
  (.ret))
  (.seq (.region [⟨(some 21), .mov (.t 0), none⟩,
    ⟨(some 22), .len true (.t 21), none⟩,
    ⟨(some 23), .bin .gtr (.t 22) (.c (.int .i64 24)), none⟩,
    ⟨(some 20), .mov (.t 23), none⟩] none)
  (.cond (.t 20) (.seq (.region [⟨(some 2), .mov (.c (.int .i64 17)), none⟩] none)
  (.ret))
  (.skip))))))
  (.seq (.region [⟨(some 2), .mov (.c (.int .i64 0)), none⟩] none)
  (.ret)))
theorem fn51 : env0.fn 51 = some ⟨24, ic51, [.t 2]⟩ := by kernel_rfl

def letterB (b : UInt8) : Bool := letterN b.toNat
def innerB (b : UInt8) : Bool := innerN b.toNat
def wordCode (s : List UInt8) : Int := if s = [] then 3 else if letterB (s.headD 0) = false then 3 else if s.all innerB = false then 3 else if 24 < s.length then 17 else 0

theorem word52 (h71 : ∀ b : UInt8, PF Tryd.prog 71 [.int .u8 b.toNat] (.bool (letterB b))) (h72 : ∀ b : UInt8, PF Tryd.prog 72 [.int .u8 b.toNat] (.bool (innerB b))) (s : List UInt8) (hs : s.length ≤ 60) :
    PF Tryd.prog 52 [.str s] (.int .i64 (wordCode s)) := by
  have noM : ∀ {b : UInt8}, hasM.hasML [AV.int .u8 b.toNat] = true → flat (.bool true) = true := fun h => rfl
  refine PF_of_wp env0_ok fn52 (by show 1 ≤ 27; decide) fun w0 N0 => ?_
  refine ⟨fun h1 => ?_, fun h1 => ?_⟩
  · have : s = [] := by simpa using h1
    subst this
    exact ⟨.inr rfl, _, rfl, rfl⟩
  obtain ⟨b, s', rfl⟩ : ∃ b s', s = b :: s' := by
    cases s with
    | nil => simp at h1
    | cons b s' => exact ⟨b, s', rfl⟩
  refine ⟨_, _, iop_idxstr rfl rfl (Int.le_refl _) (show (b :: s')[0]? = some b from rfl), ?_⟩
  cases hl : letterB b with
  | false =>
    have h := h71 b
    rw [hl] at h
    refine wpCall_pure (v := .bool false) ?_ ?_ ?_ ?_
    · exact h
    · intro hh; exact Bool.noConfusion hh
    · intro m hm; exact absurd hm List.not_mem_nil
    refine ⟨.inr rfl, _, rfl, ?_⟩
    show AV.int .i64 3 = _
    simp [wordCode, hl]
  | true =>
    have h := h71 b
    rw [hl] at h
    refine wpCall_pure (v := .bool true) ?_ ?_ ?_ ?_
    · exact h
    · intro hh; exact Bool.noConfusion hh
    · intro m hm; exact absurd hm List.not_mem_nil
    generalize hss : b :: s' = s at *
    refine ⟨T_sub (S' := ⟨27, tmOf [(0, .str s), (3, .int .i64 0)], [], 0, 0, []⟩) (Sub.tm rfl rfl rfl rfl rfl (fun x hx => ?_)) (T_loop (fun m S => ∃ i : Nat, m = s.length - i ∧ i ≤ s.length ∧ (s.take i).all innerB = true ∧ S = ⟨27, tmOf [(0, .str s), (3, .int .i64 (i : Int))], [], 0, 0, []⟩) (m := s.length) ?_ ?_)⟩
    · simp only [List.mem_cons, List.not_mem_nil, or_false] at hx
      rcases hx with rfl | rfl <;> rfl
    · exact ⟨0, by simp, by omega, rfl, rfl⟩
    · rintro m S ⟨i, rfl, hi, hall, rfl⟩
      refine T_wp ?_
      refine ⟨fun h2 => ?_, fun h2 => ?_⟩
      · -- the index is inside
        have hlt : i < s.length := by simpa using h2
        have hb : s[i]? = some s[i] := by simp [hlt]
        refine ⟨_, _, iop_idxstr rfl rfl (by omega) (show s[(i : Int).toNat]? = some s[i] from hb), ?_⟩
        cases hin : innerB s[i] with
        | false =>
          have h := h72 s[i]
          rw [hin] at h
          refine wpCall_pure (v := .bool false) ?_ ?_ ?_ ?_
          · exact h
          · intro hh; exact Bool.noConfusion hh
          · intro m hm; exact absurd hm List.not_mem_nil
          refine ⟨.inr rfl, _, rfl, ?_⟩
          show AV.int .i64 3 = _
          have : s.all innerB = false := by
            rw [Bool.eq_false_iff]
            intro ha
            have := List.all_eq_true.1 ha s[i] (List.getElem_mem hlt)
            rw [hin] at this; cases this
          have hne : s ≠ [] := by intro e; subst e; simp at hlt
          simp [wordCode, this, hne]
        | true =>
          have h := h72 s[i]
          rw [hin] at h
          refine wpCall_pure (v := .bool true) ?_ ?_ ?_ ?_
          · exact h
          · intro hh; exact Bool.noConfusion hh
          · intro m hm; exact absurd hm List.not_mem_nil
          refine ⟨s.length - (i + 1), _, by omega, Sub.tm (l := [(0, .str s), (3, .int .i64 ((i + 1 : Nat) : Int))]) rfl rfl rfl rfl rfl (fun x hx => ?_), i + 1, rfl, by omega, ?_, rfl⟩
          · simp only [List.mem_cons, List.not_mem_nil, or_false] at hx
            rcases hx with rfl | rfl
            · rfl
            · have e : ((i + 1 : Nat) : Int) = IntKind.i64.wrap ((i : Int) + 1) := by rw [wrap_small _ (by omega) (by omega)]; omega
              rw [e]
              simp only [AS.put, lookT_putT, if_true]
          · rw [List.take_add_one, List.all_append, hall, hb]
            simp [hin]
      · -- the end
        have hie : i = s.length := by have : ¬ i < s.length := by simpa using h2
                                      omega
        subst hie
        rw [List.take_length] at hall
        have hne : s ≠ [] := by rw [← hss]; simp
        have hd : letterB (s.headD 0) = true := by rw [← hss]; exact hl
        refine ⟨fun h3 => ?_, fun h3 => ?_⟩
        · have h4 : (24 : Int) < s.length := by simpa using h3
          have : 24 < s.length := by omega
          refine ⟨.inr rfl, _, rfl, ?_⟩
          show AV.int .i64 17 = _
          unfold wordCode
          rw [if_neg hne, if_neg (by rw [hd]; simp), if_neg (by rw [hall]; simp), if_pos this]
        · have h4 : (s.length : Int) ≤ 24 := by simpa using h3
          have : ¬ 24 < s.length := by omega
          refine ⟨.inr rfl, _, rfl, ?_⟩
          show AV.int .i64 0 = _
          unfold wordCode
          rw [if_neg hne, if_neg (by rw [hd]; simp), if_neg (by rw [hall]; simp), if_neg this]

def word3 : List (List AV) := [[.int .i64 1], [.int .i64 2], [.int .i64 3]]

/-- Whether a class is among the first of the three. -/
def among (c : Int) (j : Nat) : Bool := (([1, 2, 3] : List Int).take j).any (· == c)

def runLen : List UInt8 → Nat
  | [] => 0
  | b :: s => if innerB b then runLen s + 1 else 0

theorem runLen_step (s : List UInt8) : ∀ (i : Nat), i < s.length → (∀ j, j < i → (s[j]?).map innerB = some true) → (s[i]?).map innerB = some false → runLen s = i := by
  induction s with
  | nil => intro i h; simp at h
  | cons b s ih =>
    intro i h h1 h2
    cases i with
    | zero => simp at h2; simp [runLen, h2]
    | succ i =>
      have hb := h1 0 (by omega)
      simp at hb
      have := ih i (by simpa using h) (fun j hj => by have := h1 (j + 1) (by omega); simpa using this) (by simpa using h2)
      simp [runLen, hb, this]

theorem runLen_all (s : List UInt8) : (∀ j, j < s.length → (s[j]?).map innerB = some true) → runLen s = s.length := by
  induction s with
  | nil => intro _; rfl
  | cons b s ih =>
    intro h
    have hb := h 0 (by simp)
    simp at hb
    have := ih fun j hj => by have := h (j + 1) (by simpa using hj); simpa using this
    simp [runLen, hb, this]

theorem among3 (n : Nat) : n < 256 → among (classN n) 3 = innerN n := by
  have : ∀ k : Fin 256, among (classN k.val) 3 = innerN k.val := by decide +kernel
  exact fun h => this ⟨n, h⟩

theorem run70 (s : List UInt8) (hs : s.length ≤ 60) : PF Tryd.prog 70 [.str s, .vs word3] (.int .i64 (runLen s)) := by
  have h69 : ∀ b : UInt8, PF Tryd.prog 69 [.int .u8 b.toNat] (.int .i64 (classN b.toNat)) := fun b => of_bytes tab69_ok b
  refine PF_of_wp env0_ok fn70 (by show 2 ≤ 36; decide) fun w0 N0 => ?_
  refine ⟨T_sub (S' := ⟨36, tmOf [(0, .str s), (1, .vs word3), (10, .int .i64 (s.length : Int)), (11, .int .i64 0)], [], 0, 0, []⟩) (Sub.tm rfl rfl rfl rfl rfl (fun x hx => ?_))
    (T_loop (fun m S => ∃ i : Nat, m = s.length - i ∧ i ≤ s.length ∧ (∀ j, j < i → (s[j]?).map innerB = some true) ∧ S = ⟨36, tmOf [(0, .str s), (1, .vs word3), (10, .int .i64 (s.length : Int)), (11, .int .i64 (i : Int))], [], 0, 0, []⟩) (m := s.length) ?_ ?_)⟩
  · simp only [List.mem_cons, List.not_mem_nil, or_false] at hx
    rcases hx with rfl | rfl | rfl | rfl <;> (dsimp only; rfl)
  · exact ⟨0, by simp, by omega, fun j hj => by omega, rfl⟩
  rintro m S ⟨i, rfl, hi, hall, rfl⟩
  refine T_wp ?_
  refine ⟨fun h2 => ?_, fun h2 => ?_⟩
  · have hlt : i < s.length := by simpa using h2
    have hb : s[i]? = some s[i] := by simp [hlt]
    generalize hbb : s[i] = b at hb
    refine ⟨T_sub (S' := ⟨36, tmOf [(0, .str s), (1, .vs word3), (5, .int .i64 (i : Int)), (6, .bool false), (10, .int .i64 (s.length : Int)), (11, .int .i64 (i : Int)), (14, .vs word3), (15, .int .i64 3), (16, .int .i64 0)], [], 0, 0, []⟩) (Sub.tm rfl rfl rfl rfl rfl (fun x hx => ?_))
      (T_loop (fun m S => ∃ j : Nat, m = 3 - j ∧ j ≤ 3 ∧ S = ⟨36, tmOf [(0, .str s), (1, .vs word3), (5, .int .i64 (i : Int)), (6, .bool (among (classN b.toNat) j)), (10, .int .i64 (s.length : Int)), (11, .int .i64 (i : Int)), (14, .vs word3), (15, .int .i64 3), (16, .int .i64 (j : Int))], [], 0, 0, []⟩) (m := 3) ?_ ?_)⟩
    · simp only [List.mem_cons, List.not_mem_nil, or_false] at hx
      rcases hx with rfl | rfl | rfl | rfl | rfl | rfl | rfl | rfl | rfl <;> (dsimp only; rfl)
    · exact ⟨0, rfl, by omega, rfl⟩
    rintro m S ⟨j, rfl, hj, rfl⟩
    refine T_wp ?_
    refine ⟨fun h3 => ?_, fun h3 => ?_⟩
    · have hj3 : j < 3 := by have : (j : Int) < 3 := by simpa using h3
                             omega
      have he : word3[j]? = some [.int .i64 ((j + 1 : Nat) : Int)] := by
        match j, hj3 with
        | 0, _ => rfl
        | 1, _ => rfl
        | 2, _ => rfl
        | j + 3, h => omega
      have hstep : among (classN b.toNat) (j + 1) = (among (classN b.toNat) j || (((j + 1 : Nat) : Int) == classN b.toNat)) := by
        match j, hj3 with
        | 0, _ => simp [among]
        | 1, _ => simp [among]
        | 2, _ => simp [among, Bool.or_assoc]
        | j + 3, h => omega
      have next : ∀ {ok : Bool} {S1 : AS}, ok = among (classN b.toNat) (j + 1) → S1.size = 36 → S1.heap = [] → S1.next = 0 → S1.clk = 0 → S1.marks = [] →
          (∀ x ∈ [(0, AV.str s), (1, .vs word3), (5, .int .i64 (i : Int)), (6, .bool ok), (10, .int .i64 (s.length : Int)), (11, .int .i64 (i : Int)), (14, .vs word3), (15, .int .i64 3), (16, .int .i64 (IntKind.i64.wrap ((j : Int) + 1)))], lookT x.1 S1.tmps = some x.2) →
          ∃ m' S'', m' < 3 - j ∧ Sub w0 N0 S1 S'' ∧ ∃ j : Nat, m' = 3 - j ∧ j ≤ 3 ∧ S'' = ⟨36, tmOf [(0, .str s), (1, .vs word3), (5, .int .i64 (i : Int)), (6, .bool (among (classN b.toNat) j)), (10, .int .i64 (s.length : Int)), (11, .int .i64 (i : Int)), (14, .vs word3), (15, .int .i64 3), (16, .int .i64 (j : Int))], [], 0, 0, []⟩ := by
        intro ok S1 hok a1 a2 a3 a4 a5 hl
        have e : IntKind.i64.wrap ((j : Int) + 1) = ((j + 1 : Nat) : Int) := by rw [wrap_small _ (by omega) (by omega)]; omega
        rw [e] at hl
        subst hok
        exact ⟨3 - (j + 1), _, by omega, Sub.tm a1.symm a2.symm a3.symm a4.symm a5.symm hl, j + 1, rfl, by omega, rfl⟩
      refine ⟨_, _, iop_idxs (es := word3) rfl rfl (by omega) (show word3[(j : Int).toNat]? = _ from he) rfl, ?_⟩
      cases hok : among (classN b.toNat) j with
      | true =>
        refine next (ok := true) (by rw [hstep, hok]; rfl) rfl rfl rfl rfl rfl fun x hx => ?_
        simp only [List.mem_cons, List.not_mem_nil, or_false] at hx
        rcases hx with rfl | rfl | rfl | rfl | rfl | rfl | rfl | rfl | rfl <;> first | (dsimp only; rfl) | (simp only [AS.put, lookT_putT, if_true])
      | false =>
        refine ⟨_, _, iop_idxstr rfl rfl (by omega) (show s[(i : Int).toNat]? = some b from hb), ?_⟩
        refine wpCall_pure (v := .int .i64 (classN b.toNat)) (h69 b) (fun hh => Bool.noConfusion hh) (fun m hm => absurd hm List.not_mem_nil) ?_
        refine ⟨fun h4 => ?_, fun h4 => ?_⟩
        · have h5 : classN b.toNat = ((j + 1 : Nat) : Int) := by simpa using h4
          refine next (ok := true) (by rw [hstep, hok, h5]; simp) rfl rfl rfl rfl rfl fun x hx => ?_
          simp only [List.mem_cons, List.not_mem_nil, or_false] at hx
          rcases hx with rfl | rfl | rfl | rfl | rfl | rfl | rfl | rfl | rfl <;> first | (dsimp only; rfl) | (simp only [AS.put, lookT_putT, if_true])
        · have h5 : classN b.toNat ≠ ((j + 1 : Nat) : Int) := by simpa using h4
          refine next (ok := false) (by rw [hstep, hok]; simp; exact fun e => h5 (by omega)) rfl rfl rfl rfl rfl fun x hx => ?_
          simp only [List.mem_cons, List.not_mem_nil, or_false] at hx
          rcases hx with rfl | rfl | rfl | rfl | rfl | rfl | rfl | rfl | rfl <;> first | (dsimp only; rfl) | (simp only [AS.put, lookT_putT, if_true])
    · have hj3 : j = 3 := by have : ¬ (j : Int) < 3 := by simpa using h3
                             omega
      subst hj3
      have hin := among3 b.toNat b.toNat_lt
      cases hok : among (classN b.toNat) 3 with
      | true =>
        rw [hin] at hok
        have e : IntKind.i64.wrap ((i : Int) + 1) = ((i + 1 : Nat) : Int) := by rw [wrap_small _ (by omega) (by omega)]; omega
        refine ⟨s.length - (i + 1), _, by omega, Sub.tm (l := [(0, .str s), (1, .vs word3), (10, .int .i64 (s.length : Int)), (11, .int .i64 ((i + 1 : Nat) : Int))]) rfl rfl rfl rfl rfl (fun x hx => ?_), i + 1, rfl, by omega, fun j hj => ?_, rfl⟩
        · simp only [List.mem_cons, List.not_mem_nil, or_false] at hx
          rw [← e] at hx
          rcases hx with rfl | rfl | rfl | rfl <;> first | (dsimp only; rfl) | (simp only [AS.put, lookT_putT, if_true])
        · by_cases hji : j < i
          · exact hall j hji
          · obtain rfl : j = i := by omega
            rw [hb]; simpa [innerB] using hok
      | false =>
        rw [hin] at hok
        refine ⟨.inr rfl, _, rfl, ?_⟩
        show AV.int .i64 (i : Int) = _
        rw [runLen_step s i hlt hall (by rw [hb]; simpa [innerB] using hok)]
  · have hie : i = s.length := by have : ¬ i < s.length := by simpa using h2
                                  omega
    subst hie
    refine ⟨.inr rfl, _, rfl, ?_⟩
    show AV.int .i64 (s.length : Int) = _
    rw [runLen_all s hall]

end Go.Proofs.YtclefndccgmolaaDoor

namespace Go.Proofs.YtclefndccgmolaaDoor
open Go Go.Am

theorem class1 (n : Nat) : n < 256 → (classN n = 1 ↔ letterN n = true) := by
  have : ∀ k : Fin 256, (classN k.val == 1) = letterN k.val := by decide +kernel
  intro h
  have := this ⟨n, h⟩
  simp only at this
  rw [← this]; simp

theorem runLen_iff (s : List UInt8) : runLen s = s.length ↔ s.all innerB = true := by
  induction s with
  | nil => simp [runLen]
  | cons b s ih =>
    simp only [runLen, List.all_cons, Bool.and_eq_true, List.length_cons]
    cases h : innerB b with
    | true => simp [ih]
    | false => simp

theorem word51 (s : List UInt8) (hs : s.length ≤ 60) : PF Tryd.prog 51 [.str s] (.int .i64 (wordCode s)) := by
  have h69 : ∀ b : UInt8, PF Tryd.prog 69 [.int .u8 b.toNat] (.int .i64 (classN b.toNat)) := fun b => of_bytes tab69_ok b
  refine PF_of_wp env0_ok fn51 (by show 1 ≤ 24; decide) fun w0 N0 => ?_
  refine ⟨fun h1 => ?_, fun h1 => ?_⟩
  · have : s = [] := by simpa using h1
    subst this
    exact ⟨.inr rfl, _, rfl, rfl⟩
  obtain ⟨b, s', hbs⟩ : ∃ b s', s = b :: s' := by
    cases s with
    | nil => simp at h1
    | cons b s' => exact ⟨b, s', rfl⟩
  have hne : s ≠ [] := by rw [hbs]; simp
  have hd : s.headD 0 = b := by rw [hbs]; rfl
  refine ⟨_, _, iop_idxstr rfl rfl (Int.le_refl _) (show s[0]? = some b by rw [hbs]; rfl), ?_⟩
  refine wpCall_pure (v := .int .i64 (classN b.toNat)) (h69 b) (fun hh => Bool.noConfusion hh) (fun m hm => absurd hm List.not_mem_nil) ?_
  refine ⟨fun h2 => ?_, fun h2 => ?_⟩
  · have h3 : classN b.toNat ≠ 1 := by simpa using h2
    have hl : letterB b = false := by
      rw [Bool.eq_false_iff]; exact fun e => h3 ((class1 _ b.toNat_lt).2 e)
    refine ⟨.inr rfl, _, rfl, ?_⟩
    show AV.int .i64 3 = _
    unfold wordCode
    rw [if_neg hne, hd, if_pos hl]
  have h3 : classN b.toNat = 1 := by simpa using h2
  have hl : letterB b = true := (class1 _ b.toNat_lt).1 h3
  refine wpCall_pure (v := .int .i64 (runLen s)) (run70 s hs) (fun _ => rfl) (fun m hm => absurd hm List.not_mem_nil) ?_
  refine ⟨fun h4 => ?_, fun h4 => ?_⟩
  · have h5 : ¬ runLen s = s.length := by
      have : (runLen s : Int) ≠ s.length := by simpa using h4
      omega
    refine ⟨.inr rfl, _, rfl, ?_⟩
    show AV.int .i64 3 = _
    unfold wordCode
    rw [if_neg hne, hd, if_neg (by rw [hl]; simp), if_pos (by rw [Bool.eq_false_iff]; exact fun e => h5 ((runLen_iff s).2 e))]
  have h5 : runLen s = s.length := by
    have : (runLen s : Int) = s.length := by simpa using h4
    omega
  have hall := (runLen_iff s).1 h5
  refine ⟨fun h6 => ?_, fun h6 => ?_⟩
  · have h7 : (24 : Int) < s.length := by simpa using h6
    refine ⟨.inr rfl, _, rfl, ?_⟩
    show AV.int .i64 17 = _
    unfold wordCode
    rw [if_neg hne, hd, if_neg (by rw [hl]; simp), if_neg (by rw [hall]; simp), if_pos (by omega)]
  · have h7 : (s.length : Int) ≤ 24 := by simpa using h6
    refine ⟨.inr rfl, _, rfl, ?_⟩
    show AV.int .i64 0 = _
    unfold wordCode
    rw [if_neg hne, hd, if_neg (by rw [hl]; simp), if_neg (by rw [hall]; simp), if_neg (by omega)]

end Go.Proofs.YtclefndccgmolaaDoor

namespace Go.Proofs.YtclefndccgmolaaDoor
open Go Go.Am

def ic29 : IC := .seq (.region [⟨(some 1), .box (.t 0), none⟩,
    ⟨(some 2), .mov (.c (.int .i64 0)), none⟩] none)
  (.seq (.seq (.region [⟨(some 7), .faddr 0 (.t 1), none⟩,
    ⟨(some 8), .load none (.t 7), none⟩,
    ⟨(some 9), .call (.c (.fn 43 [] [])) [(.t 8)], none⟩,
    ⟨(some 6), .mov (.t 9), none⟩,
    ⟨(some 10), .extract (.t 6) 0, none⟩,
    ⟨(some 11), .extract (.t 6) 1, none⟩,
    ⟨(some 3), .alloc [.str [], .str [], .nils, .nils, .nils, .nils, .nils, .str [], .str [], .int .i64 0, .nilf, .nilf], none⟩,
    ⟨none, .store 12 (.t 3) (.t 10), none⟩,
    ⟨(some 4), .mov (.t 11), none⟩] none)
  (.seq (.region [⟨(some 12), .mov (.t 4), none⟩,
    ⟨(some 13), .bin .neq (.t 12) (.c (.int .i64 0)), none⟩] none)
  (.cond (.t 13) (.seq (.region [⟨(some 14), .mov (.t 4), none⟩,
    ⟨(some 2), .mov (.t 14), none⟩] none)
  (.ret))
  (.skip))))
  (.seq (.seq (.region [⟨(some 15), .faddr 1 (.t 1), none⟩,
    ⟨(some 16), .load none (.t 15), none⟩,
    ⟨(some 17), .call (.c (.fn 51 [] [])) [(.t 16)], none⟩,
    ⟨(some 5), .mov (.t 17), none⟩] none)
  (.seq (.region [⟨(some 18), .mov (.t 5), none⟩,
    ⟨(some 19), .bin .neq (.t 18) (.c (.int .i64 0)), none⟩] none)
  (.cond (.t 19) (.seq (.region [⟨(some 20), .mov (.t 5), none⟩,
    ⟨(some 2), .mov (.t 20), none⟩] none)
  (.ret))
  (.skip))))
  (.seq (.seq (.region [⟨(some 21), .faddr 0 (.t 1), none⟩,
    ⟨(some 22), .load none (.t 21), none⟩,
    ⟨(some 23), .bin .eql (.t 22) (.c (.int .i64 12)), none⟩,
    ⟨(some 24), .mov (.t 23), none⟩,
    ⟨(some 25), .faddr 2 (.t 1), some (24, true)⟩,
    ⟨(some 26), .load none (.t 25), some (24, true)⟩,
    ⟨(some 27), .bin .lss (.t 26) (.c (.int .i64 1)), some (24, true)⟩,
    ⟨(some 28), .mov (.t 27), some (24, true)⟩,
    ⟨(some 29), .faddr 2 (.t 1), some (28, false)⟩,
    ⟨(some 30), .load none (.t 29), some (28, false)⟩,
    ⟨(some 31), .bin .gtr (.t 30) (.c (.int .i64 1000000)), some (28, false)⟩,
    ⟨(some 32), .pick (.t 28) (.c (.bool true)) (.t 31), some (24, true)⟩,
    ⟨(some 33), .pick (.t 24) (.t 32) (.c (.bool false)), none⟩,
    ⟨(some 34), .mov (.t 33), none⟩,
    ⟨(some 35), .faddr 0 (.t 1), some (34, false)⟩,
    ⟨(some 36), .load none (.t 35), some (34, false)⟩,
    ⟨(some 37), .bin .neq (.t 36) (.c (.int .i64 12)), some (34, false)⟩,
    ⟨(some 38), .mov (.t 37), some (34, false)⟩,
    ⟨(some 39), .faddr 2 (.t 1), some (38, true)⟩,
    ⟨(some 40), .load none (.t 39), some (38, true)⟩,
    ⟨(some 41), .bin .neq (.t 40) (.c (.int .i64 0)), some (38, true)⟩,
    ⟨(some 42), .pick (.t 38) (.t 41) (.c (.bool false)), some (34, false)⟩,
    ⟨(some 43), .pick (.t 34) (.c (.bool true)) (.t 42), none⟩] none)
  (.cond (.t 43) (.seq (.region [⟨(some 2), .mov (.c (.int .i64 2)), none⟩] none)
  (.ret))
  (.skip)))
  (.seq (.region [⟨(some 2), .mov (.c (.int .i64 0)), none⟩] none)
  (.ret)))))
theorem fn29 : env0.fn 29 = some ⟨44, ic29, [.t 2]⟩ := by kernel_rfl

def ic30 : IC := .seq (.region [⟨(some 1), .box (.t 0), none⟩,
    ⟨(some 2), .mov (.c (.int .i64 0)), none⟩] none)
  (.seq (.seq (.region [⟨(some 5), .faddr 0 (.t 1), none⟩,
    ⟨(some 6), .load none (.t 5), none⟩,
    ⟨(some 7), .call (.c (.fn 44 [] [])) [(.t 6)], none⟩,
    ⟨(some 3), .mov (.t 7), none⟩] none)
  (.seq (.region [⟨(some 8), .mov (.t 3), none⟩,
    ⟨(some 9), .bin .neq (.t 8) (.c (.int .i64 0)), none⟩] none)
  (.cond (.t 9) (.seq (.region [⟨(some 10), .mov (.t 3), none⟩,
    ⟨(some 2), .mov (.t 10), none⟩] none)
  (.ret))
  (.skip))))
  (.seq (.seq (.region [⟨(some 11), .faddr 1 (.t 1), none⟩,
    ⟨(some 12), .load none (.t 11), none⟩,
    ⟨(some 13), .call (.c (.fn 52 [] [])) [(.t 12)], none⟩,
    ⟨(some 4), .mov (.t 13), none⟩] none)
  (.seq (.region [⟨(some 14), .mov (.t 4), none⟩,
    ⟨(some 15), .bin .neq (.t 14) (.c (.int .i64 0)), none⟩] none)
  (.cond (.t 15) (.seq (.region [⟨(some 16), .mov (.t 4), none⟩,
    ⟨(some 2), .mov (.t 16), none⟩] none)
  (.ret))
  (.skip))))
  (.seq (.seq (.region [⟨(some 17), .faddr 0 (.t 1), none⟩,
    ⟨(some 18), .load none (.t 17), none⟩,
    ⟨(some 19), .bin .eql (.t 18) (.c (.int .i64 12)), none⟩,
    ⟨(some 20), .mov (.t 19), none⟩,
    ⟨(some 21), .faddr 2 (.t 1), some (20, true)⟩,
    ⟨(some 22), .load none (.t 21), some (20, true)⟩,
    ⟨(some 23), .bin .lss (.t 22) (.c (.int .i64 1)), some (20, true)⟩,
    ⟨(some 24), .mov (.t 23), some (20, true)⟩,
    ⟨(some 25), .faddr 2 (.t 1), some (24, false)⟩,
    ⟨(some 26), .load none (.t 25), some (24, false)⟩,
    ⟨(some 27), .bin .gtr (.t 26) (.c (.int .i64 1000000)), some (24, false)⟩,
    ⟨(some 28), .pick (.t 24) (.c (.bool true)) (.t 27), some (20, true)⟩,
    ⟨(some 29), .pick (.t 20) (.t 28) (.c (.bool false)), none⟩,
    ⟨(some 30), .mov (.t 29), none⟩,
    ⟨(some 31), .faddr 0 (.t 1), some (30, false)⟩,
    ⟨(some 32), .load none (.t 31), some (30, false)⟩,
    ⟨(some 33), .bin .neq (.t 32) (.c (.int .i64 12)), some (30, false)⟩,
    ⟨(some 34), .mov (.t 33), some (30, false)⟩,
    ⟨(some 35), .faddr 2 (.t 1), some (34, true)⟩,
    ⟨(some 36), .load none (.t 35), some (34, true)⟩,
    ⟨(some 37), .bin .neq (.t 36) (.c (.int .i64 0)), some (34, true)⟩,
    ⟨(some 38), .pick (.t 34) (.t 37) (.c (.bool false)), some (30, false)⟩,
    ⟨(some 39), .pick (.t 30) (.c (.bool true)) (.t 38), none⟩] none)
  (.cond (.t 39) (.seq (.region [⟨(some 2), .mov (.c (.int .i64 2)), none⟩] none)
  (.ret))
  (.skip)))
  (.seq (.region [⟨(some 2), .mov (.c (.int .i64 0)), none⟩] none)
  (.ret)))))
theorem fn30 : env0.fn 30 = some ⟨40, ic30, [.t 2]⟩ := by kernel_rfl

def minI : Int := -9223372036854775808
def maxI : Int := 9223372036854775807

theorem crel_rng {w : World} {ro : Nat → Prop} {us : Array Value} {k lo hi : Int} (h1 : lo ≤ k) (h2 : k ≤ hi) (h : CRel w ro none [.int .i64 k] us) : CRel w ro none [.rng .i64 lo hi] us := by
  refine ⟨h.1, fun i x hx => ?_⟩
  match i with
  | 0 =>
    simp at hx; subst hx
    have := h.2 0 _ rfl
    generalize us.getD 0 undef = u at this
    cases this
    exact .rng h1 h2
  | i + 1 => simp at hx

theorem crel_strA {w : World} {ro : Nat → Prop} {us : Array Value} {s : List UInt8} {no : List (List UInt8)} {lo hi : Nat} (h0 : s ∉ no) (h1 : lo ≤ s.length) (h2 : s.length ≤ hi) (h : CRel w ro none [.str s] us) : CRel w ro none [.strA no lo hi] us := by
  refine ⟨h.1, fun i x hx => ?_⟩
  match i with
  | 0 =>
    simp at hx; subst hx
    have := h.2 0 _ rfl
    generalize us.getD 0 undef = u at this
    cases this
    exact .strA (fun t ht e => h0 (by rw [e]; exact ht)) h1 h2
  | i + 1 => simp at hx

/-- A kind's number, known or of a range. -/
theorem pf_kind {T : Tab} {f : FuncId} (hT : TabOk Tryd.prog T) (G : AV → Bool) (h1 : ((List.range 14).all fun n => match findT T f [.int .i64 (n : Int)] with | some v => G v | none => false) = true)
    (h2 : (match findT T f [.rng .i64 minI (-1)] with | some v => G v | none => false) = true) (h3 : (match findT T f [.rng .i64 14 maxI] with | some v => G v | none => false) = true) (k : Int) (hk : minI ≤ k ∧ k ≤ maxI) :
    ∃ v, G v = true ∧ PF Tryd.prog f [.int .i64 k] v ∧ ((k < 0 → findT T f [.rng .i64 minI (-1)] = some v) ∧ (14 ≤ k → findT T f [.rng .i64 14 maxI] = some v) ∧ (0 ≤ k → k < 14 → findT T f [.int .i64 k] = some v)) := by
  by_cases c1 : k < 0
  · split at h2
    · rename_i v hv
      exact ⟨v, h2, PF_args (findT_ok hT hv) (fun w ro us h => crel_rng hk.1 (by omega) h), fun _ => hv, fun h => by omega, fun h => by omega⟩
    · cases h2
  by_cases c2 : 14 ≤ k
  · split at h3
    · rename_i v hv
      exact ⟨v, h3, PF_args (findT_ok hT hv) (fun w ro us h => crel_rng c2 hk.2 h), fun h => by omega, fun _ => hv, fun _ h => by omega⟩
    · cases h3
  obtain ⟨n, rfl⟩ : ∃ n : Nat, k = n := ⟨k.toNat, by omega⟩
  have := List.all_eq_true.1 h1 n (List.mem_range.2 (by omega))
  split at this
  · rename_i v hv
    exact ⟨v, this, findT_ok hT hv, fun h => by omega, fun h => by omega, fun _ _ => hv⟩
  · cases this

/-- Two functions that answer alike. -/
noncomputable def alike (T U : Tab) (f g : FuncId) (G : AV → Bool) (a : List AV) : Bool := match findT T f a, findT U g a with
  | some v, some u => G v && AV.beq v u
  | _, _ => false

theorem alike_ok {T U : Tab} {f g : FuncId} {G : AV → Bool} {a : List AV} (hT : TabOk Tryd.prog T) (hU : TabOk Tryd.prog U) (h : alike T U f g G a = true) : ∃ v, G v = true ∧ PF Tryd.prog f a v ∧ PF Tryd.prog g a v := by
  unfold alike at h
  split at h
  · rename_i v u hv hu
    simp only [Bool.and_eq_true] at h
    obtain rfl := AV.eq_of_beq _ _ h.2
    exact ⟨v, h.1, findT_ok hT hv, findT_ok hU hu⟩
  · cases h

theorem kinds_alike {T U : Tab} {f g : FuncId} {G : AV → Bool} (hT : TabOk Tryd.prog T) (hU : TabOk Tryd.prog U)
    (h1 : ((List.range 14).all fun n => alike T U f g G [.int .i64 (n : Int)]) = true) (h2 : alike T U f g G [.rng .i64 minI (-1)] = true) (h3 : alike T U f g G [.rng .i64 14 maxI] = true) (k : Int) (hk : minI ≤ k ∧ k ≤ maxI) :
    ∃ v, G v = true ∧ PF Tryd.prog f [.int .i64 k] v ∧ PF Tryd.prog g [.int .i64 k] v := by
  by_cases c1 : k < 0
  · obtain ⟨v, a, b, c⟩ := alike_ok hT hU h2
    exact ⟨v, a, PF_args b (fun w ro us h => crel_rng hk.1 (by omega) h), PF_args c (fun w ro us h => crel_rng hk.1 (by omega) h)⟩
  by_cases c2 : 14 ≤ k
  · obtain ⟨v, a, b, c⟩ := alike_ok hT hU h3
    exact ⟨v, a, PF_args b (fun w ro us h => crel_rng c2 hk.2 h), PF_args c (fun w ro us h => crel_rng c2 hk.2 h)⟩
  obtain ⟨n, rfl⟩ : ∃ n : Nat, k = n := ⟨k.toNat, by omega⟩
  exact alike_ok hT hU (List.all_eq_true.1 h1 n (List.mem_range.2 (by omega)))

def isSI : AV → Bool
  | .tup [.str _, .int .i64 _] => true
  | _ => false

theorem isSI_ok {v : AV} (h : isSI v = true) : ∃ s e, v = .tup [.str s, .int .i64 e] := by
  unfold isSI at h
  split at h
  · exact ⟨_, _, rfl⟩
  · cases h

def isII : AV → Bool
  | .tup [.int .i64 _, .int .i64 _] => true
  | _ => false

theorem isII_ok {v : AV} (h : isII v = true) : ∃ s e, v = .tup [.int .i64 s, .int .i64 e] := by
  unfold isII at h
  split at h
  · exact ⟨_, _, rfl⟩
  · cases h

theorem words_alike (k : Int) (hk : minI ≤ k ∧ k ≤ maxI) : ∃ s e, PF Tryd.prog 23 [.int .i64 k] (.tup [.str s, .int .i64 e]) ∧ PF Tryd.prog 24 [.int .i64 k] (.tup [.str s, .int .i64 e]) := by
  obtain ⟨v, a, b, c⟩ := kinds_alike (G := isSI) tabN23_ok tabN24_ok (by kernel_rfl) (by kernel_rfl) (by kernel_rfl) k hk
  obtain ⟨s, e, rfl⟩ := isSI_ok a
  exact ⟨s, e, b, c⟩

theorem letters_alike (k : Int) (hk : minI ≤ k ∧ k ≤ maxI) : ∃ s e, PF Tryd.prog 27 [.int .i64 k] (.tup [.str s, .int .i64 e]) ∧ PF Tryd.prog 28 [.int .i64 k] (.tup [.str s, .int .i64 e]) := by
  obtain ⟨v, a, b, c⟩ := kinds_alike (G := isSI) tabN27_ok tabN28_ok (by kernel_rfl) (by kernel_rfl) (by kernel_rfl) k hk
  obtain ⟨s, e, rfl⟩ := isSI_ok a
  exact ⟨s, e, b, c⟩

def kindWords : List (List UInt8) := [[115, 117, 112, 112, 108, 121], [99, 121, 108, 105, 110, 100, 101, 114], [118, 97, 108, 118, 101, 53, 50], [118, 97, 108, 118, 101, 53, 50, 115], [118, 97, 108, 118, 101, 51, 50], [118, 97, 108, 118, 101, 51, 50, 111], [108, 105, 109, 105, 116], [98, 117, 116, 116, 111, 110], [115, 104, 117, 116, 116, 108, 101], [116, 119, 105, 110], [113, 117, 105, 99, 107], [116, 104, 114, 111, 116, 116, 108, 101], [100, 101, 108, 97, 121], [99, 111, 117, 110, 116, 101, 114]]

theorem kindWords_alike (s : List UInt8) (hs : s.length ≤ 60) : ∃ k e, PF Tryd.prog 25 [.str s] (.tup [.int .i64 k, .int .i64 e]) ∧ PF Tryd.prog 26 [.str s] (.tup [.int .i64 k, .int .i64 e]) := by
  have h1 : (kindWords.all fun w => alike tabN25 tabN26 25 26 isII [.str w]) = true := by kernel_rfl
  have h2 : alike tabN25 tabN26 25 26 isII [.strA kindWords 0 60] = true := by kernel_rfl
  by_cases hm : s ∈ kindWords
  · obtain ⟨v, a, b, c⟩ := alike_ok tabN25_ok tabN26_ok (List.all_eq_true.1 h1 s hm)
    obtain ⟨x, e, rfl⟩ := isII_ok a
    exact ⟨x, e, b, c⟩
  · obtain ⟨v, a, b, c⟩ := alike_ok tabN25_ok tabN26_ok h2
    obtain ⟨x, e, rfl⟩ := isII_ok a
    exact ⟨x, e, PF_args b (fun w ro us h => crel_strA hm (by omega) hs h), PF_args c (fun w ro us h => crel_strA hm (by omega) hs h)⟩

def isRow : AV → Bool
  | .tup [.agg row, .int .i64 _] => Nat.beq row.length 12 && row.all AV.isCell
  | _ => false

theorem isRow_ok {v : AV} (h : isRow v = true) : ∃ row e, v = .tup [.agg row, .int .i64 e] ∧ row.length = 12 ∧ row.all AV.isCell = true := by
  unfold isRow at h
  split at h
  · simp only [Bool.and_eq_true] at h
    exact ⟨_, _, rfl, Nat.eq_of_beq_eq_true h.1, h.2⟩
  · cases h

def sndE : AV → AV
  | .tup [_, e] => e
  | v => v

noncomputable def rowAlike (a : List AV) : Bool := match findT tab2 43 a, findT tabN44 44 a with
  | some v, some u => isRow v && AV.beq (sndE v) u
  | _, _ => false

theorem rowAlike_ok {a : List AV} (h : rowAlike a = true) : ∃ row e, row.length = 12 ∧ row.all AV.isCell = true ∧ PF Tryd.prog 43 a (.tup [.agg row, .int .i64 e]) ∧ PF Tryd.prog 44 a (.int .i64 e) := by
  unfold rowAlike at h
  split at h
  · rename_i v u hv hu
    simp only [Bool.and_eq_true] at h
    obtain ⟨row, e, rfl, h1, h2⟩ := isRow_ok h.1
    have h3 := AV.eq_of_beq _ _ h.2
    simp only [sndE] at h3
    subst h3
    exact ⟨row, e, h1, h2, findT_ok tab2_ok hv, findT_ok tabN44_ok hu⟩
  · cases h

theorem rows_alike (k : Int) (hk : minI ≤ k ∧ k ≤ maxI) : ∃ row e, row.length = 12 ∧ row.all AV.isCell = true ∧ PF Tryd.prog 43 [.int .i64 k] (.tup [.agg row, .int .i64 e]) ∧ PF Tryd.prog 44 [.int .i64 k] (.int .i64 e) := by
  have h1 : ((List.range 14).all fun n => rowAlike [.int .i64 (n : Int)]) = true := by kernel_rfl
  have h2 : rowAlike [.rng .i64 minI (-1)] = true := by kernel_rfl
  have h3 : rowAlike [.rng .i64 14 maxI] = true := by kernel_rfl
  by_cases c1 : k < 0
  · obtain ⟨r, e, a, b, c, d⟩ := rowAlike_ok h2
    exact ⟨r, e, a, b, PF_args c (fun w ro us h => crel_rng hk.1 (by omega) h), PF_args d (fun w ro us h => crel_rng hk.1 (by omega) h)⟩
  by_cases c2 : 14 ≤ k
  · obtain ⟨r, e, a, b, c, d⟩ := rowAlike_ok h3
    exact ⟨r, e, a, b, PF_args c (fun w ro us h => crel_rng c2 hk.2 h), PF_args d (fun w ro us h => crel_rng c2 hk.2 h)⟩
  obtain ⟨n, rfl⟩ : ∃ n : Nat, k = n := ⟨k.toNat, by omega⟩
  exact rowAlike_ok (List.all_eq_true.1 h1 n (List.mem_range.2 (by omega)))

/-- What Check returns of a part whose kind has the error e. -/
def checkOf (e : Int) (k : Int) (s : List UInt8) (d : Int) : Int :=
  if e ≠ 0 then e else if wordCode s ≠ 0 then wordCode s else if k = 12 then (if d < 1 then 2 else if 1000000 < d then 2 else 0) else if d ≠ 0 then 2 else 0

set_option maxHeartbeats 4000000 in
theorem check29 (k : Int) (s : List UInt8) (d e : Int) (row : List AV) (hs : s.length ≤ 60) (hr : row.length = 12) (hc : row.all AV.isCell = true) (h43 : PF Tryd.prog 43 [.int .i64 k] (.tup [.agg row, .int .i64 e])) :
    PF Tryd.prog 29 [.agg [.int .i64 k, .str s, .int .i64 d]] (.int .i64 (checkOf e k s d)) := by
  refine PF_of_wp env0_ok fn29 (by show 1 ≤ 44; decide) fun w0 N0 => ?_
  refine wpCall_pure (v := .tup [.agg row, .int .i64 e]) h43 (fun hh => Bool.noConfusion hh) (fun m hm => absurd hm List.not_mem_nil) ?_
  refine ⟨_, _, iop_store rfl rfl rfl rfl hr (by rw [hr]; decide) hc, ?_⟩
  refine ⟨fun h1 => ?_, fun h1 => ?_⟩
  · have h1' : e ≠ 0 := by simpa using h1
    refine ⟨.inr rfl, _, rfl, ?_⟩
    show AV.int .i64 e = _
    simp only [checkOf, if_pos h1']
  have h1' : ¬ e ≠ 0 := by simpa using h1
  refine wpCall_pure (v := .int .i64 (wordCode s)) (word51 s hs) (fun hh => Bool.noConfusion hh) (fun m hm => absurd hm List.not_mem_nil) ?_
  refine ⟨fun h2 => ?_, fun h2 => ?_⟩
  · have h2' : wordCode s ≠ 0 := by simpa using h2
    refine ⟨.inr rfl, _, rfl, ?_⟩
    show AV.int .i64 (wordCode s) = _
    simp only [checkOf, if_neg h1', if_pos h2']
  have h2' : ¬ wordCode s ≠ 0 := by simpa using h2
  refine ⟨fun h3 => ?_, fun h3 => ?_⟩
  · have h3' : k = 12 := by simpa using h3
    subst h3'
    refine ⟨fun h4 => ?_, fun h4 => ?_⟩
    · have h4' : d < 1 := by simpa using h4
      refine ⟨.inr rfl, _, rfl, ?_⟩
      show AV.int .i64 2 = _
      simp only [checkOf, if_neg h1', if_neg h2', if_true, if_pos h4']
    have h4' : ¬ d < 1 := by simpa using h4
    refine ⟨fun h5 => ?_, fun h5 => ?_⟩
    · have h5' : 1000000 < d := by simpa using h5
      refine ⟨.inr rfl, _, rfl, ?_⟩
      show AV.int .i64 2 = _
      simp only [checkOf, if_neg h1', if_neg h2', if_true, if_neg h4', if_pos h5']
    have h5' : ¬ 1000000 < d := by simpa using h5
    refine ⟨fun h6 => absurd h6 (by decide), fun h6 => ?_⟩
    refine ⟨.inr rfl, _, rfl, ?_⟩
    show AV.int .i64 0 = _
    simp only [checkOf, if_neg h1', if_neg h2', if_true, if_neg h4', if_neg h5']
  have h3' : ¬ k = 12 := by simpa using h3
  refine ⟨fun h6 => ?_, fun h6 => absurd h3' (by simpa using h6)⟩
  refine ⟨fun h7 => ?_, fun h7 => ?_⟩
  · have h7' : d ≠ 0 := by simpa using h7
    refine ⟨.inr rfl, _, rfl, ?_⟩
    show AV.int .i64 2 = _
    simp only [checkOf, if_neg h1', if_neg h2', if_neg h3', if_pos h7']
  · have h7' : ¬ d ≠ 0 := by simpa using h7
    refine ⟨.inr rfl, _, rfl, ?_⟩
    show AV.int .i64 0 = _
    simp only [checkOf, if_neg h1', if_neg h2', if_neg h3', if_neg h7']

set_option maxHeartbeats 4000000 in
theorem check30 (k : Int) (s : List UInt8) (d e : Int) (hs : s.length ≤ 60) (h44 : PF Tryd.prog 44 [.int .i64 k] (.int .i64 e)) :
    PF Tryd.prog 30 [.agg [.int .i64 k, .str s, .int .i64 d]] (.int .i64 (checkOf e k s d)) := by
  refine PF_of_wp env0_ok fn30 (by show 1 ≤ 40; decide) fun w0 N0 => ?_
  refine wpCall_pure (v := .int .i64 e) h44 (fun hh => Bool.noConfusion hh) (fun m hm => absurd hm List.not_mem_nil) ?_
  refine ⟨fun h1 => ?_, fun h1 => ?_⟩
  · have h1' : e ≠ 0 := by simpa using h1
    refine ⟨.inr rfl, _, rfl, ?_⟩
    show AV.int .i64 e = _
    simp only [checkOf, if_pos h1']
  have h1' : ¬ e ≠ 0 := by simpa using h1
  refine wpCall_pure (v := .int .i64 (wordCode s)) (word52 (fun b => of_bytes tab71_ok b) (fun b => of_bytes tab72_ok b) s hs) (fun hh => Bool.noConfusion hh) (fun m hm => absurd hm List.not_mem_nil) ?_
  refine ⟨fun h2 => ?_, fun h2 => ?_⟩
  · have h2' : wordCode s ≠ 0 := by simpa using h2
    refine ⟨.inr rfl, _, rfl, ?_⟩
    show AV.int .i64 (wordCode s) = _
    simp only [checkOf, if_neg h1', if_pos h2']
  have h2' : ¬ wordCode s ≠ 0 := by simpa using h2
  refine ⟨fun h3 => ?_, fun h3 => ?_⟩
  · have h3' : k = 12 := by simpa using h3
    subst h3'
    refine ⟨fun h4 => ?_, fun h4 => ?_⟩
    · have h4' : d < 1 := by simpa using h4
      refine ⟨.inr rfl, _, rfl, ?_⟩
      show AV.int .i64 2 = _
      simp only [checkOf, if_neg h1', if_neg h2', if_true, if_pos h4']
    have h4' : ¬ d < 1 := by simpa using h4
    refine ⟨fun h5 => ?_, fun h5 => ?_⟩
    · have h5' : 1000000 < d := by simpa using h5
      refine ⟨.inr rfl, _, rfl, ?_⟩
      show AV.int .i64 2 = _
      simp only [checkOf, if_neg h1', if_neg h2', if_true, if_neg h4', if_pos h5']
    have h5' : ¬ 1000000 < d := by simpa using h5
    refine ⟨fun h6 => absurd h6 (by decide), fun h6 => ?_⟩
    refine ⟨.inr rfl, _, rfl, ?_⟩
    show AV.int .i64 0 = _
    simp only [checkOf, if_neg h1', if_neg h2', if_true, if_neg h4', if_neg h5']
  have h3' : ¬ k = 12 := by simpa using h3
  refine ⟨fun h6 => ?_, fun h6 => absurd h3' (by simpa using h6)⟩
  refine ⟨fun h7 => ?_, fun h7 => ?_⟩
  · have h7' : d ≠ 0 := by simpa using h7
    refine ⟨.inr rfl, _, rfl, ?_⟩
    show AV.int .i64 2 = _
    simp only [checkOf, if_neg h1', if_neg h2', if_neg h3', if_pos h7']
  · have h7' : ¬ d ≠ 0 := by simpa using h7
    refine ⟨.inr rfl, _, rfl, ?_⟩
    show AV.int .i64 0 = _
    simp only [checkOf, if_neg h1', if_neg h2', if_neg h3', if_neg h7']

end Go.Proofs.YtclefndccgmolaaDoor

namespace Go.Proofs.YtclefndccgmolaaDoor
open Go Go.Am

def ic6 : IC := .seq (.region [⟨(some 5), .box (.t 2), none⟩,
    ⟨(some 6), .mov (.c (.bool false)), none⟩] none)
  (.seq (.seq (.region [⟨(some 19), .mov (.t 1), none⟩,
    ⟨(some 20), .len true (.t 19), none⟩,
    ⟨(some 21), .bin .gtr (.t 20) (.c (.int .i64 60)), none⟩,
    ⟨(some 22), .mov (.t 21), none⟩,
    ⟨(some 23), .faddr 1 (.t 5), some (22, false)⟩,
    ⟨(some 24), .load none (.t 23), some (22, false)⟩,
    ⟨(some 25), .len true (.t 24), some (22, false)⟩,
    ⟨(some 26), .bin .gtr (.t 25) (.c (.int .i64 60)), some (22, false)⟩,
    ⟨(some 27), .pick (.t 22) (.c (.bool true)) (.t 26), none⟩] none)
  (.cond (.t 27) (.seq (.region [⟨(some 28), .call (.c (.fn 14 [] [])) [], none⟩,
    ⟨(some 6), .mov (.t 28), none⟩] none)
  (.ret))
  (.skip)))
  (.seq (.region [⟨(some 30), .mov (.t 0), none⟩,
    ⟨(some 31), .call (.c (.fn 23 [] [])) [(.t 30)], none⟩,
    ⟨(some 29), .mov (.t 31), none⟩,
    ⟨(some 32), .extract (.t 29) 0, none⟩,
    ⟨(some 33), .extract (.t 29) 1, none⟩,
    ⟨(some 7), .mov (.t 32), none⟩,
    ⟨(some 8), .mov (.t 33), none⟩] none)
  (.seq (.region [⟨(some 35), .mov (.t 0), none⟩,
    ⟨(some 36), .call (.c (.fn 24 [] [])) [(.t 35)], none⟩,
    ⟨(some 34), .mov (.t 36), none⟩,
    ⟨(some 37), .extract (.t 34) 0, none⟩,
    ⟨(some 38), .extract (.t 34) 1, none⟩,
    ⟨(some 9), .mov (.t 37), none⟩,
    ⟨(some 10), .mov (.t 38), none⟩] none)
  (.seq (.region [⟨(some 40), .mov (.t 1), none⟩,
    ⟨(some 41), .call (.c (.fn 25 [] [])) [(.t 40)], none⟩,
    ⟨(some 39), .mov (.t 41), none⟩,
    ⟨(some 42), .extract (.t 39) 0, none⟩,
    ⟨(some 43), .extract (.t 39) 1, none⟩,
    ⟨(some 11), .mov (.t 42), none⟩,
    ⟨(some 12), .mov (.t 43), none⟩] none)
  (.seq (.region [⟨(some 45), .mov (.t 1), none⟩,
    ⟨(some 46), .call (.c (.fn 26 [] [])) [(.t 45)], none⟩,
    ⟨(some 44), .mov (.t 46), none⟩,
    ⟨(some 47), .extract (.t 44) 0, none⟩,
    ⟨(some 48), .extract (.t 44) 1, none⟩,
    ⟨(some 13), .mov (.t 47), none⟩,
    ⟨(some 14), .mov (.t 48), none⟩] none)
  (.seq (.region [⟨(some 50), .mov (.t 0), none⟩,
    ⟨(some 51), .call (.c (.fn 27 [] [])) [(.t 50)], none⟩,
    ⟨(some 49), .mov (.t 51), none⟩,
    ⟨(some 52), .extract (.t 49) 0, none⟩,
    ⟨(some 53), .extract (.t 49) 1, none⟩,
    ⟨(some 15), .mov (.t 52), none⟩,
    ⟨(some 16), .mov (.t 53), none⟩] none)
  (.seq (.region [⟨(some 55), .mov (.t 0), none⟩,
    ⟨(some 56), .call (.c (.fn 28 [] [])) [(.t 55)], none⟩,
    ⟨(some 54), .mov (.t 56), none⟩,
    ⟨(some 57), .extract (.t 54) 0, none⟩,
    ⟨(some 58), .extract (.t 54) 1, none⟩,
    ⟨(some 17), .mov (.t 57), none⟩,
    ⟨(some 18), .mov (.t 58), none⟩] none)
  (.seq (.region [⟨(some 59), .call (.c (.fn 14 [] [])) [], none⟩,
    ⟨(some 60), .mov (.t 59), none⟩,
    ⟨(some 61), .mov (.t 7), some (60, true)⟩,
    ⟨(some 62), .mov (.t 9), some (60, true)⟩,
    ⟨(some 63), .bin .eql (.t 61) (.t 62), some (60, true)⟩,
    ⟨(some 64), .pick (.t 60) (.t 63) (.c (.bool false)), none⟩,
    ⟨(some 65), .mov (.t 64), none⟩,
    ⟨(some 66), .mov (.t 8), some (65, true)⟩,
    ⟨(some 67), .mov (.t 10), some (65, true)⟩,
    ⟨(some 68), .bin .eql (.t 66) (.t 67), some (65, true)⟩,
    ⟨(some 69), .pick (.t 65) (.t 68) (.c (.bool false)), none⟩,
    ⟨(some 70), .mov (.t 69), none⟩,
    ⟨(some 71), .mov (.t 11), some (70, true)⟩,
    ⟨(some 72), .mov (.t 13), some (70, true)⟩,
    ⟨(some 73), .bin .eql (.t 71) (.t 72), some (70, true)⟩,
    ⟨(some 74), .pick (.t 70) (.t 73) (.c (.bool false)), none⟩,
    ⟨(some 75), .mov (.t 74), none⟩,
    ⟨(some 76), .mov (.t 12), some (75, true)⟩,
    ⟨(some 77), .mov (.t 14), some (75, true)⟩,
    ⟨(some 78), .bin .eql (.t 76) (.t 77), some (75, true)⟩,
    ⟨(some 79), .pick (.t 75) (.t 78) (.c (.bool false)), none⟩,
    ⟨(some 80), .mov (.t 79), none⟩,
    ⟨(some 81), .mov (.t 15), some (80, true)⟩,
    ⟨(some 82), .mov (.t 17), some (80, true)⟩,
    ⟨(some 83), .bin .eql (.t 81) (.t 82), some (80, true)⟩,
    ⟨(some 84), .pick (.t 80) (.t 83) (.c (.bool false)), none⟩,
    ⟨(some 85), .mov (.t 84), none⟩,
    ⟨(some 86), .mov (.t 16), some (85, true)⟩,
    ⟨(some 87), .mov (.t 18), some (85, true)⟩,
    ⟨(some 88), .bin .eql (.t 86) (.t 87), some (85, true)⟩,
    ⟨(some 89), .pick (.t 85) (.t 88) (.c (.bool false)), none⟩,
    ⟨(some 90), .mov (.t 89), none⟩,
    ⟨(some 91), .load (some 3) (.t 5), some (90, true)⟩,
    ⟨(some 92), .call (.c (.fn 29 [] [])) [(.t 91)], some (90, true)⟩,
    ⟨(some 93), .load (some 3) (.t 5), some (90, true)⟩,
    ⟨(some 94), .call (.c (.fn 30 [] [])) [(.t 93)], some (90, true)⟩,
    ⟨(some 95), .bin .eql (.t 92) (.t 94), some (90, true)⟩,
    ⟨(some 96), .pick (.t 90) (.t 95) (.c (.bool false)), none⟩,
    ⟨(some 6), .mov (.t 96), none⟩] (some [[], [0, 0], [1], [1], [2, 3, 1], [1, 4], [5, 1], [6], [6], [7, 8, 6], [6, 9], [10, 6], [11], [11], [12, 13, 11], [11, 14], [15, 11], [16], [16], [17, 18, 16], [16, 19], [20, 16], [21], [21], [22, 23, 21], [21, 24], [25, 21], [26], [26], [27, 28, 26], [26, 29], [30, 26], [31], [32, 31, 31], [31], [34, 33, 31], [33, 35, 31], [31, 36], [37, 35, 0, 1, 2, 3, 4, 5, 6, 7, 8, 9, 10, 11, 12, 13, 14, 15, 16, 17, 18, 19, 20, 21, 22, 23, 24, 25, 26, 27, 28, 29, 30, 31, 32, 33, 34, 35, 36, 37]]))
  (.ret)))))))))
theorem fn6 : env0.fn 6 = some ⟨97, ic6, [.t 6]⟩ := by kernel_rfl

def ios6 : List Opr := [⟨(some 59), .call (.c (.fn 14 [] [])) [], none⟩,
    ⟨(some 60), .mov (.t 59), none⟩,
    ⟨(some 61), .mov (.t 7), some (60, true)⟩,
    ⟨(some 62), .mov (.t 9), some (60, true)⟩,
    ⟨(some 63), .bin .eql (.t 61) (.t 62), some (60, true)⟩,
    ⟨(some 64), .pick (.t 60) (.t 63) (.c (.bool false)), none⟩,
    ⟨(some 65), .mov (.t 64), none⟩,
    ⟨(some 66), .mov (.t 8), some (65, true)⟩,
    ⟨(some 67), .mov (.t 10), some (65, true)⟩,
    ⟨(some 68), .bin .eql (.t 66) (.t 67), some (65, true)⟩,
    ⟨(some 69), .pick (.t 65) (.t 68) (.c (.bool false)), none⟩,
    ⟨(some 70), .mov (.t 69), none⟩,
    ⟨(some 71), .mov (.t 11), some (70, true)⟩,
    ⟨(some 72), .mov (.t 13), some (70, true)⟩,
    ⟨(some 73), .bin .eql (.t 71) (.t 72), some (70, true)⟩,
    ⟨(some 74), .pick (.t 70) (.t 73) (.c (.bool false)), none⟩,
    ⟨(some 75), .mov (.t 74), none⟩,
    ⟨(some 76), .mov (.t 12), some (75, true)⟩,
    ⟨(some 77), .mov (.t 14), some (75, true)⟩,
    ⟨(some 78), .bin .eql (.t 76) (.t 77), some (75, true)⟩,
    ⟨(some 79), .pick (.t 75) (.t 78) (.c (.bool false)), none⟩,
    ⟨(some 80), .mov (.t 79), none⟩,
    ⟨(some 81), .mov (.t 15), some (80, true)⟩,
    ⟨(some 82), .mov (.t 17), some (80, true)⟩,
    ⟨(some 83), .bin .eql (.t 81) (.t 82), some (80, true)⟩,
    ⟨(some 84), .pick (.t 80) (.t 83) (.c (.bool false)), none⟩,
    ⟨(some 85), .mov (.t 84), none⟩,
    ⟨(some 86), .mov (.t 16), some (85, true)⟩,
    ⟨(some 87), .mov (.t 18), some (85, true)⟩,
    ⟨(some 88), .bin .eql (.t 86) (.t 87), some (85, true)⟩,
    ⟨(some 89), .pick (.t 85) (.t 88) (.c (.bool false)), none⟩,
    ⟨(some 90), .mov (.t 89), none⟩,
    ⟨(some 91), .load (some 3) (.t 5), some (90, true)⟩,
    ⟨(some 92), .call (.c (.fn 29 [] [])) [(.t 91)], some (90, true)⟩,
    ⟨(some 93), .load (some 3) (.t 5), some (90, true)⟩,
    ⟨(some 94), .call (.c (.fn 30 [] [])) [(.t 93)], some (90, true)⟩,
    ⟨(some 95), .bin .eql (.t 92) (.t 94), some (90, true)⟩,
    ⟨(some 96), .pick (.t 90) (.t 95) (.c (.bool false)), none⟩,
    ⟨(some 6), .mov (.t 96), none⟩]
def pres6 : List (List Nat) := [[], [0, 0], [1], [1], [2, 3, 1], [1, 4], [5, 1], [6], [6], [7, 8, 6], [6, 9], [10, 6], [11], [11], [12, 13, 11], [11, 14], [15, 11], [16], [16], [17, 18, 16], [16, 19], [20, 16], [21], [21], [22, 23, 21], [21, 24], [25, 21], [26], [26], [27, 28, 26], [26, 29], [30, 26], [31], [32, 31, 31], [31], [34, 33, 31], [33, 35, 31], [31, 36], [37, 35, 0, 1, 2, 3, 4, 5, 6, 7, 8, 9, 10, 11, 12, 13, 14, 15, 16, 17, 18, 19, 20, 21, 22, 23, 24, 25, 26, 27, 28, 29, 30, 31, 32, 33, 34, 35, 36, 37]]
def k6 : FuncId → Bool := fun f => Nat.beq f 14 || Nat.beq f 29 || Nat.beq f 30

theorem st6 (o : FuncId → List AV → Option AV) : statD (env0.ask o k6) ios6 pres6 97 = some [(true, false), (true, false), (true, false), (true, false), (true, false), (true, false), (true, false), (true, false), (true, false), (true, false), (true, false), (true, false), (true, false), (true, false), (true, false), (true, false), (true, false), (true, false), (true, false), (true, false), (true, false), (true, false), (true, false), (true, false), (true, false), (true, false), (true, false), (true, false), (true, false), (true, false), (true, false), (true, false), (true, false), (true, false), (true, false), (true, false), (true, false), (true, false), (true, false)] := by kernel_rfl

theorem pf14 : PF Tryd.prog 14 [] (.bool true) := tabA_ok _ (List.mem_singleton.2 rfl) (_, _) (List.mem_singleton.2 rfl)

set_option maxHeartbeats 8000000 in
set_option maxRecDepth 100000 in
theorem names (k : Int) (hk : minI ≤ k ∧ k ≤ maxI) (s : List UInt8) (pk : Int) (hpk : minI ≤ pk ∧ pk ≤ maxI) (pn : List UInt8) (pd : Int) :
    PF Tryd.prog 6 [.int .i64 k, .str s, .agg [.int .i64 pk, .str pn, .int .i64 pd]] (.bool true) := by
  have nilM : ∀ {S : AS}, S.marks = [] → marksOk S.marks S.heap := fun h m hm => by rw [h] at hm; exact absurd hm List.not_mem_nil
  refine PF_of_wp env0_ok fn6 (by show 3 ≤ 97; decide) fun w0 N0 => ?_
  refine ⟨fun h1 => ?_, fun h1 => ?_⟩
  · refine wpCall_pure (v := .bool true) pf14 (fun hh => Bool.noConfusion hh) (nilM rfl) ?_
    exact ⟨.inr rfl, _, rfl, rfl⟩
  refine ⟨fun h2 => ?_, fun h2 => ?_⟩
  · refine wpCall_pure (v := .bool true) pf14 (fun hh => Bool.noConfusion hh) (nilM rfl) ?_
    exact ⟨.inr rfl, _, rfl, rfl⟩
  have hs : s.length ≤ 60 := by have : ¬ (60 : Int) < s.length := by simpa using h1
                                omega
  have hp : pn.length ≤ 60 := by have : ¬ (60 : Int) < pn.length := by simpa using h2
                                 omega
  obtain ⟨x1, e1, a1, b1⟩ := words_alike k hk
  obtain ⟨x2, e2, a2, b2⟩ := kindWords_alike s hs
  obtain ⟨x3, e3, a3, b3⟩ := letters_alike k hk
  obtain ⟨row, e4, r1, r2, a4, b4⟩ := rows_alike pk hpk
  have c1 := check29 pk pn pd e4 row hp r1 r2 a4
  have c2 := check30 pk pn pd e4 hp b4
  generalize checkOf e4 pk pn pd = ce at c1 c2
  refine wpCall_pure (v := .tup [.str x1, .int .i64 e1]) a1 (fun hh => Bool.noConfusion hh) (nilM rfl) ?_
  refine wpCall_pure (v := .tup [.str x1, .int .i64 e1]) b1 (fun hh => Bool.noConfusion hh) (nilM rfl) ?_
  refine wpCall_pure (v := .tup [.int .i64 x2, .int .i64 e2]) a2 (fun hh => Bool.noConfusion hh) (nilM rfl) ?_
  refine wpCall_pure (v := .tup [.int .i64 x2, .int .i64 e2]) b2 (fun hh => Bool.noConfusion hh) (nilM rfl) ?_
  refine wpCall_pure (v := .tup [.str x3, .int .i64 e3]) a3 (fun hh => Bool.noConfusion hh) (nilM rfl) ?_
  refine wpCall_pure (v := .tup [.str x3, .int .i64 e3]) b3 (fun hh => Bool.noConfusion hh) (nilM rfl) ?_
  have hE : EnvOk Tryd.prog (env0.ask (lookL [(29, [.agg [.int .i64 pk, .str pn, .int .i64 pd]], .int .i64 ce), (30, [.agg [.int .i64 pk, .str pn, .int .i64 pd]], .int .i64 ce), (14, [], .bool true)]) k6) := by
    refine env0_ok.ask (lookL_ok fun x hx => ?_)
    simp only [List.mem_cons, List.not_mem_nil, or_false] at hx
    rcases hx with rfl | rfl | rfl
    · exact c1
    · exact c2
    · exact pf14
  refine WpT_drawn (ios := ios6) (pres := pres6) hE (st6 _) ?_
  unfold ios6
  refine ⟨⟨rfl, rfl⟩, _, quiet_call rfl rfl rfl (show lookL _ 14 [] = some (.bool true) from lookL_next (by decide) (lookL_next (by decide) lookL_here)) rfl, ?_⟩
  refine ⟨fun _ => ?_, fun h => absurd h (by simp)⟩
  refine ⟨fun _ => ?_, fun h => absurd h (by simp)⟩
  refine ⟨fun _ => ?_, fun h => absurd h (by simp)⟩
  refine ⟨fun _ => ?_, fun h => absurd h (by simp)⟩
  refine ⟨fun _ => ?_, fun h => absurd h (by simp)⟩
  refine ⟨fun _ => ?_, fun h => absurd h (by simp)⟩
  refine ⟨⟨rfl, rfl⟩, _, quiet_call rfl rfl rfl (show lookL _ 29 [.agg [.int .i64 pk, .str pn, .int .i64 pd]] = some (.int .i64 ce) from lookL_here) rfl, ?_⟩
  refine ⟨⟨rfl, rfl⟩, _, quiet_call rfl rfl rfl (show lookL _ 30 [.agg [.int .i64 pk, .str pn, .int .i64 pd]] = some (.int .i64 ce) from lookL_next (by decide) lookL_here) rfl, ?_⟩
  refine ⟨fun _ => ?_, fun h => absurd h (by simp)⟩
  exact ⟨.inr rfl, _, rfl, rfl⟩

end Go.Proofs.YtclefndccgmolaaDoor

