/-
  CHECKING AN EXPRESSION ANSWERS AS THE REFERENCE'S CHECK.
-/
import Derived.Test.YtofkihmckookjaaR9
namespace Go.Proofs.Ytofkihmckookjaa
open Go Go.Am

mutual
def szX : Ex → Int
  | .nd _ _ args => 1 + szL args
def szL : List Ex → Int
  | [] => 0
  | y :: ys => szX y + szL ys
end

mutual
theorem szX_pos : ∀ x : Ex, 1 ≤ szX x
  | .nd op ix args => by
    rw [szX]
    have := szL_nonneg args
    omega
theorem szL_nonneg : ∀ l : List Ex, 0 ≤ szL l
  | [] => by rw [szL]; exact Int.le_refl _
  | y :: ys => by
    rw [szL]
    have := szX_pos y
    have := szL_nonneg ys
    omega
end

theorem len_le_szL : ∀ l : List Ex, (l.length : Int) ≤ szL l
  | [] => by rw [szL]; exact Int.le_refl _
  | y :: ys => by
    rw [szL, List.length_cons]
    have := szX_pos y
    have := len_le_szL ys
    omega

mutual
theorem thin_of : ∀ x : Ex, szX x ≤ 256 → Thin x
  | .nd op ix args => fun h => by
    rw [szX] at h
    have := len_le_szL args
    exact .nd (by omega) (thinL_of args (by omega))
theorem thinL_of : ∀ l : List Ex, szL l ≤ 256 → ∀ y ∈ l, Thin y
  | [] => fun _ y hy => absurd hy List.not_mem_nil
  | x :: xs => fun h y hy => by
    rw [szL] at h
    have h1 := szX_pos x
    have h2 := szL_nonneg xs
    rcases List.mem_cons.1 hy with he | hm
    · rw [he]
      exact thin_of x (by omega)
    · exact thinL_of xs (by omega) y hm
end

mutual
theorem cnt_eq (most : Int) (h : 0 ≤ most) : ∀ x : Ex, cnt most x = if szX x ≤ most then szX x else most + 1
  | .nd op ix args => by
    rw [cnt, szX]
    exact cntL_eq most h 1 (by omega) (by omega) args
theorem cntL_eq (most : Int) (h : 0 ≤ most) (n : Int) (h1 : 1 ≤ n) (h2 : n ≤ most + 1) : ∀ l : List Ex, cntL most n l = if n + szL l ≤ most then n + szL l else most + 1
  | [] => by
    rw [cntL, szL]
    split <;> omega
  | y :: ys => by
    rw [cntL, szL]
    have hy := szX_pos y
    have hys := szL_nonneg ys
    split
    · have e := cnt_eq (most - n) (by omega) y
      have b := cnt_le (most - n) (by omega) y
      rw [cntL_eq most h _ (by omega) (by omega) ys]
      split at e <;> rw [e] <;> (repeat' split) <;> omega
    · rw [if_neg (by omega)]
      omega
end

theorem deepB_succ (m : Nat) (op ix : Int) (args : List Ex) : deepB (m + 1) (.nd op ix args) = args.all (deepB m) := by
  rw [deepB]
  split
  · rename_i h
    subst h
    cases args with
    | nil => rfl
    | cons a l => simp [deepB]
  · rfl

def lightB (x : Ex) : Bool := decide (cnt 256 x ≤ 256) && deepB 16 x

theorem light_iff (x : Ex) : lightB x = true ↔ szX x ≤ 256 ∧ deepB 16 x = true := by
  unfold lightB
  rw [Bool.and_eq_true, decide_eq_true_iff, cnt_eq 256 (by omega)]
  constructor
  · intro ⟨a, b⟩
    refine ⟨?_, b⟩
    split at a <;> omega
  · intro ⟨a, b⟩
    exact ⟨by rw [if_pos a]; exact a, b⟩

mutual
theorem walkM : ∀ (x : Ex) (d n m : Int), 1 ≤ d → d ≤ 17 → 0 ≤ n → n ≤ 256 →
    if n + szX x ≤ 256 ∧ deepB (17 - d).toNat x = true then ∃ m', walkX stepM d x (n, m) = .inl (n + szX x, m') else walkX stepM d x (n, m) = .inr ()
  | .nd op ix args => fun d n m hd h17 h0 hn => by
    rw [walkX, szX]
    unfold stepM
    have hs0 := szL_nonneg args
    by_cases hs : n + 1 > 256 ∨ d > 16
    · rw [if_pos hs, if_neg]
      intro ⟨a, b⟩
      rcases hs with hs | hs
      · omega
      · rw [show (17 - d).toNat = 0 by omega] at b
        simp [deepB] at b
    · rw [if_neg hs, show (17 - d).toNat = (16 - d).toNat + 1 by omega, deepB_succ, ← Int.add_assoc]
      exact walkLM args d (n + 1) (deepM m d) hd (by omega) (by omega) (by omega)
theorem walkLM : ∀ (l : List Ex) (d n m : Int), 1 ≤ d → d ≤ 16 → 0 ≤ n → n ≤ 256 →
    if n + szL l ≤ 256 ∧ l.all (deepB (16 - d).toNat) = true then ∃ m', walkL stepM d l (n, m) = .inl (n + szL l, m') else walkL stepM d l (n, m) = .inr ()
  | [] => fun d n m hd h16 h0 hn => by
    rw [szL, walkL, if_pos ⟨by omega, rfl⟩, Int.add_zero]
    exact ⟨m, rfl⟩
  | y :: ys => fun d n m hd h16 h0 hn => by
    have hy := walkM y (d + 1) n m (by omega) (by omega) h0 hn
    rw [walkL, if_pos h16, szL]
    rw [show (17 - (d + 1)).toNat = (16 - d).toNat by omega] at hy
    have hp := szX_pos y
    have hq := szL_nonneg ys
    by_cases hc : n + szX y ≤ 256 ∧ deepB (16 - d).toNat y = true
    · rw [if_pos hc] at hy
      obtain ⟨m', hy⟩ := hy
      rw [hy, List.all_cons, hc.2, Bool.true_and, ← Int.add_assoc]
      exact walkLM ys d (n + szX y) m' hd h16 (by omega) hc.1
    · rw [if_neg hc] at hy
      rw [hy, if_neg]
      intro ⟨a, b⟩
      rw [List.all_cons, Bool.and_eq_true] at b
      exact hc ⟨by omega, b.1⟩
end

mutual
theorem walkC (z : Int) : ∀ (x : Ex) (d : Int), 1 ≤ d → d ≤ 17 → deepB (17 - d).toNat x = true → walkX (stepC z) d x () = if nds z x = 0 then .inl () else .inr (nds z x)
  | .nd op ix args => fun d hd h17 hb => by
    have h16 : d ≤ 16 := by
      by_cases h : d ≤ 16
      · exact h
      · rw [show (17 - d).toNat = 0 by omega] at hb
        simp [deepB] at hb
    rw [show (17 - d).toNat = (16 - d).toNat + 1 by omega, deepB_succ] at hb
    rw [walkX, nds]
    unfold stepC nodeX
    by_cases h : nodeV op ix args.length z = 0
    · simp only [if_pos h]
      exact walkLC z args d hd h16 hb
    · simp only [if_neg h]
theorem walkLC (z : Int) : ∀ (l : List Ex) (d : Int), 1 ≤ d → d ≤ 16 → l.all (deepB (16 - d).toNat) = true → walkL (stepC z) d l () = if ndsL z l = 0 then .inl () else .inr (ndsL z l)
  | [] => fun d hd h16 hb => by rw [walkL, ndsL, if_pos rfl]
  | y :: ys => fun d hd h16 hb => by
    rw [List.all_cons, Bool.and_eq_true] at hb
    have hy := walkC z y (d + 1) (by omega) (by omega) (by rw [show (17 - (d + 1)).toNat = (16 - d).toNat by omega]; exact hb.1)
    rw [walkL, if_pos h16, hy, ndsL]
    by_cases h : nds z y = 0
    · simp only [if_pos h]
      exact walkLC z ys d hd h16 hb.2
    · simp only [if_neg h]
end

/-- What the reference's Check answers. -/
def checkR (x : Ex) (n : Int) : Int := if n < 0 ∨ n > 256 then 2 else if lightB x = true then nds n x else 5

theorem check_eq (x : Ex) (n : Int) : checkV x n = checkR x n := by
  unfold checkV checkR
  split
  · rfl
  · have hw := walkM x 1 0 0 (by omega) (by omega) (by omega) (by omega)
    rw [Int.zero_add, show ((17 : Int) - 1).toNat = 16 from rfl] at hw
    by_cases hl : lightB x = true
    · rw [if_pos ((light_iff x).1 hl)] at hw
      obtain ⟨m', hw⟩ := hw
      rw [hw, if_pos hl]
      dsimp only
      rw [walkC n x 1 (by omega) (by omega) ((light_iff x).1 hl).2]
      by_cases h : nds n x = 0
      · rw [if_pos h]; exact h.symm
      · rw [if_neg h]
    · rw [if_neg (fun h => hl ((light_iff x).2 h))] at hw
      rw [hw, if_neg hl]

-- pneumatic/pneumaticref05.Light
def ic47 : IC := .seq (.region [⟨(some 1), .box (.t 0), none⟩,
    ⟨(some 2), .mov (.c (.bool false)), none⟩] none)
  (.seq (.region [⟨(some 3), .load (some 3) (.t 1), none⟩,
    ⟨(some 4), .call (.c (.fn 72 [] [])) [(.t 3), (.c (.int .i64 256))], none⟩,
    ⟨(some 5), .bin .leq (.t 4) (.c (.int .i64 256)), none⟩,
    ⟨(some 6), .mov (.t 5), none⟩,
    ⟨(some 7), .load (some 3) (.t 1), some (6, true)⟩,
    ⟨(some 8), .call (.c (.fn 73 [] [])) [(.t 7), (.c (.int .i64 16))], some (6, true)⟩,
    ⟨(some 9), .pick (.t 6) (.t 8) (.c (.bool false)), none⟩,
    ⟨(some 2), .mov (.t 9), none⟩] none)
  (.ret))
theorem fn47 : env0.fn 47 = some ⟨10, ic47, [.t 2]⟩ := by kernel_rfl


theorem light47 (x : Ex) (hs : Slim x) : PF Try.prog 47 [.agg (cX x)] (.bool (lightB x)) := by
  have h72 := count72 _ x 256 (Nat.le_refl _) hs (by decide) (by decide)
  have h73 := deep73 16 x 16 rfl (by decide) hs
  have hl : lightB x = (decide (cnt 256 x ≤ 256) && deepB 16 x) := rfl
  rw [hl]
  obtain ⟨op, ix, args⟩ := x
  refine PF_of_Z env0_ok fn47 [(0, .agg (cX (.nd op ix args)))] (by show 1 ≤ 10; decide) rfl fun w0 N0 => ?_
  unfold ic47
  repeat (first | refine z_seq ?_ | refine z_region rfl ?_ | refine o_nil ?_ | refine u_seq ?_ | refine o_mov rfl ?_ | refine o_loadn rfl rfl rfl rfl ?_ | refine o_box rfl rfl ?_)
  refine o_call rfl rfl h72 (fun h => Bool.noConfusion (show false = true from h)) ?_
  refine o_cmp rfl rfl rfl (fun h1 => ?_) fun h1 => ?_
  · rw [h1, Bool.true_and]
    repeat (first | refine o_gy rfl ?_ | refine o_mov rfl ?_ | refine o_loadn rfl rfl rfl rfl ?_)
    refine o_call rfl rfl h73 (fun h => Bool.noConfusion (show false = true from h)) ?_
    repeat (first | refine o_nil ?_ | refine u_seq ?_ | refine z_ret ?_ | refine o_mov rfl ?_ | refine o_pickt rfl rfl ?_)
    exact u_end ⟨.inr rfl, _, rfl, rfl⟩
  · rw [h1, Bool.false_and]
    repeat (first | refine o_nil ?_ | refine u_seq ?_ | refine z_ret ?_ | refine o_gn rfl rfl ?_ | refine o_mov rfl ?_ | refine o_pickf rfl rfl ?_)
    exact u_end ⟨.inr rfl, _, rfl, rfl⟩

-- pneumatic/pneumaticref05.Check
def ic60 : IC := .seq (.region [⟨(some 2), .box (.t 0), none⟩,
    ⟨(some 4), .mov (.c (.int .i64 0)), none⟩] none)
  (.seq (.seq (.region [⟨(some 5), .mov (.t 1), none⟩,
    ⟨(some 6), .bin .lss (.t 5) (.c (.int .i64 0)), none⟩,
    ⟨(some 7), .mov (.t 6), none⟩,
    ⟨(some 8), .mov (.t 1), some (7, false)⟩,
    ⟨(some 9), .bin .gtr (.t 8) (.c (.int .i64 256)), some (7, false)⟩,
    ⟨(some 10), .pick (.t 7) (.c (.bool true)) (.t 9), none⟩] none)
  (.cond (.t 10) (.seq (.region [⟨(some 4), .mov (.c (.int .i64 2)), none⟩] none)
  (.ret))
  (.skip)))
  (.seq (.seq (.region [⟨(some 11), .load (some 3) (.t 2), none⟩,
    ⟨(some 12), .call (.c (.fn 47 [] [])) [(.t 11)], none⟩,
    ⟨(some 13), .un .not (.t 12), none⟩] none)
  (.cond (.t 13) (.seq (.region [⟨(some 4), .mov (.c (.int .i64 5)), none⟩] none)
  (.ret))
  (.skip)))
  (.seq (.region [⟨(some 14), .load (some 3) (.t 2), none⟩,
    ⟨(some 15), .mov (.t 1), none⟩,
    ⟨(some 16), .call (.c (.fn 89 [] [])) [(.t 14), (.t 15)], none⟩,
    ⟨(some 4), .mov (.t 16), none⟩] none)
  (.ret))))
theorem fn60 : env0.fn 60 = some ⟨17, ic60, [.t 4]⟩ := by kernel_rfl


theorem check60 (x : Ex) (hs : Slim x) (n : Int) : PF Try.prog 60 [.agg (cX x), .int .i64 n] (.int .i64 (checkR x n)) := by
  have h47 := light47 x hs
  have h89 : lightB x = true → PF Try.prog 89 [.agg (cX x), .int .i64 n] (.int .i64 (nds n x)) := fun h => nodes89 n _ x (Nat.le_refl _) (thin_of x ((light_iff x).1 h).1)
  obtain ⟨op, ix, args⟩ := x
  refine PF_of_Z env0_ok fn60 [(0, .agg (cX (.nd op ix args))), (1, .int .i64 n)] (by show 2 ≤ 17; decide) rfl fun w0 N0 => ?_
  unfold ic60 checkR
  repeat (first | refine z_seq ?_ | refine z_region rfl ?_ | refine o_nil ?_ | refine u_seq ?_ | refine o_mov rfl ?_ | refine o_box rfl rfl ?_)
  refine o_cmp rfl rfl rfl (fun h1 => ?_) fun h1 => ?_
  · rw [if_pos (.inl (of_decide_eq_true h1))]
    repeat (first | refine z_seq ?_ | refine z_region rfl ?_ | refine o_nil ?_ | refine u_seq ?_ | refine z_ct rfl ?_ | refine z_ret ?_ | refine u_ret_seq ?_ | refine o_gn rfl rfl ?_ | refine o_mov rfl ?_ | refine o_pickt rfl rfl ?_)
    exact u_end ⟨.inr rfl, _, rfl, rfl⟩
  repeat (first | refine o_gy rfl ?_ | refine o_mov rfl ?_)
  refine o_cmp rfl rfl rfl (fun h2 => ?_) fun h2 => ?_
  · rw [if_pos (.inr (of_decide_eq_true h2))]
    repeat (first | refine z_seq ?_ | refine z_region rfl ?_ | refine o_nil ?_ | refine u_seq ?_ | refine z_ct rfl ?_ | refine z_ret ?_ | refine u_ret_seq ?_ | refine o_mov rfl ?_ | refine o_pickf rfl rfl ?_)
    exact u_end ⟨.inr rfl, _, rfl, rfl⟩
  rw [if_neg (fun h => h.elim (of_decide_eq_false h1) (of_decide_eq_false h2))]
  repeat (first | refine z_seq ?_ | refine z_region rfl ?_ | refine o_nil ?_ | refine u_seq ?_ | refine z_skip ?_ | refine z_cf rfl ?_ | refine o_loadn rfl rfl rfl rfl ?_ | refine o_pickf rfl rfl ?_)
  cases hl : lightB (.nd op ix args) with
  | true =>
    rw [hl] at h47
    rw [if_pos rfl]
    refine o_call rfl rfl h47 (fun h => Bool.noConfusion (show false = true from h)) ?_
    repeat (first | refine z_seq ?_ | refine z_region rfl ?_ | refine o_nil ?_ | refine u_seq ?_ | refine z_skip ?_ | refine z_cf rfl ?_ | refine o_mov rfl ?_ | refine o_loadn rfl rfl rfl rfl ?_ | refine o_un rfl rfl ?_)
    refine o_call rfl rfl (h89 hl) (fun h => Bool.noConfusion (show false = true from h)) ?_
    repeat (first | refine o_nil ?_ | refine u_seq ?_ | refine z_ret ?_ | refine o_mov rfl ?_)
    exact u_end ⟨.inr rfl, _, rfl, rfl⟩
  | false =>
    rw [hl] at h47
    rw [if_neg (by simp)]
    refine o_call rfl rfl h47 (fun h => Bool.noConfusion (show false = true from h)) ?_
    repeat (first | refine z_seq ?_ | refine z_region rfl ?_ | refine o_nil ?_ | refine u_seq ?_ | refine z_ct rfl ?_ | refine z_ret ?_ | refine u_ret_seq ?_ | refine o_mov rfl ?_ | refine o_un rfl rfl ?_)
    exact u_end ⟨.inr rfl, _, rfl, rfl⟩

end Go.Proofs.Ytofkihmckookjaa
