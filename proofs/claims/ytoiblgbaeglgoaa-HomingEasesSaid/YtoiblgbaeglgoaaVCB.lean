/-
  C5, C6, TB, D1 in one text.
-/
import Derived.Test.YtoiblgbaeglgoaaVCA
import Derived.KernelRfl
import Derived.Test.YtoiblgbaeglgoaaVQD
import Derived.Test.YtoiblgbaeglgoaaVA9
namespace Go.Proofs.Ytoiblgbaeglgoaa
open Go Go.Am

def ext (out : List (List Int)) (c : List Int) : List (List Int) := out.flatMap fun p => c.map fun x => p ++ [x]

section
variable {w0 : World} {N0 : Nat} {k : List Fr} {Q : Exit → AS → Prop}

end
end Go.Proofs.Ytoiblgbaeglgoaa
namespace Go.Proofs.Ytoiblgbaeglgoaa
open Go Go.Am

section
variable {w0 : World} {N0 : Nat} {k : List Fr} {Q : Exit → AS → Prop}

end
end Go.Proofs.Ytoiblgbaeglgoaa
namespace Go.Proofs.Ytoiblgbaeglgoaa
open Go Go.Am

end Go.Proofs.Ytoiblgbaeglgoaa
namespace Go.Proofs.Ytoiblgbaeglgoaa
open Go Go.Am

-- slices.Clone[[]pneumatic/api.Expr,pneumatic/api.Expr]
def ic26 : IC := .seq (.region [⟨(some 2), .mov (.c (.nils)), none⟩] none)
  (.seq (.seq (.region [⟨(some 3), .mov (.t 0), none⟩,
    ⟨(some 4), .nilq false (.t 3), none⟩] none)
  (.cond (.t 4) (.seq (.region [⟨(some 2), .mov (.c (.nils)), none⟩] none)
  (.ret))
  (.skip)))
  (.seq (.region [⟨(some 5), .bslice 3 0 [] [], none⟩,
    ⟨(some 6), .mov (.t 0), none⟩,
    ⟨(some 7), .append 3 40 [.int .i64 0, .int .i64 0, .nils] (.t 5) (.t 6), none⟩,
    ⟨(some 2), .mov (.t 7), none⟩] none)
  (.ret)))
theorem fn26 : env0.fn 26 = some ⟨8, ic26, [.t 2]⟩ := by kernel_rfl

theorem cX_all (x : Ex) : (cX x).all AV.isCell = true := by cases x; rfl
theorem cX_hasM (x : Ex) : hasM.hasML (cX x) = false := by cases x; rfl

theorem cXs_cell (l : List Ex) : (cXs l).flatten.all AV.isCell = true := isCell_flat fun x hx => by
  rw [cXs_eq] at hx
  obtain ⟨y, _, rfl⟩ := List.mem_map.1 hx
  exact cX_all y

theorem cXs_hasM (l : List Ex) : hasM.hasML (cXs l).flatten = false := hasML_flat fun x hx => by
  rw [cXs_eq] at hx
  obtain ⟨y, _, rfl⟩ := List.mem_map.1 hx
  exact cX_hasM y

theorem cXs_size (l : List Ex) : ∀ x ∈ cXs l, x.length = 3 := fun x hx => by
  rw [cXs_eq] at hx
  obtain ⟨y, _, rfl⟩ := List.mem_map.1 hx
  exact cX_length y

theorem clone41 {w0 : World} {N0 : Nat} (l : List Ex) (hl : l.length ≤ 600) (H : HS) : FT Try.prog w0 N0 26 [.vs (cXs l)] H fun v H' => Keep (fun _ => False) H H' ∧ ((l = [] ∧ v = .nils) ∨ ∃ id sp cap ys, v = .ms id sp 3 0 l.length cap ∧ H.next ≤ id ∧ id < H'.next ∧ Am.look id H'.heap = some (sp, .cells ((cXs l).flatten ++ ys))) := by
  refine FT_of_Z env0_ok fn26 [(0, .vs (cXs l))] (by show 1 ≤ 8; decide) rfl ?_
  unfold ic26
  refine z_seq (z_region rfl (o_mov rfl (o_nil (u_seq (z_seq (z_seq (z_region rfl (o_mov rfl ?_))))))))
  cases l with
  | nil =>
    refine o_nilq (es := []) rfl fun b => ?_
    cases b
    · repeat (first | refine z_seq ?_ | refine z_region rfl ?_ | refine o_nil ?_ | refine u_seq ?_ | refine z_skip ?_ | refine z_cf rfl ?_ | refine z_ret ?_ | refine o_mov rfl ?_ | refine o_bslice rfl rfl ?_ | refine o_append rfl rfl rfl rfl ?_)
      exact u_end ⟨.inr rfl, _, rfl, ⟨Nat.le_succ _, Nat.le_succ _, fun i _ hi => look_new hi⟩, .inr ⟨_, _, _, [], rfl, Nat.le_refl _, Nat.lt_succ_self _, look_top⟩⟩
    · repeat (first | refine z_seq ?_ | refine z_region rfl ?_ | refine o_nil ?_ | refine u_seq ?_ | refine z_ct rfl ?_ | refine z_ret ?_ | refine u_ret_seq ?_ | refine o_mov rfl ?_)
      exact u_end ⟨.inr rfl, _, rfl, .refl _ _, .inl ⟨rfl, rfl⟩⟩
  | cons x l =>
    have hcl : (cXs (x :: l)).length = (x :: l).length := cXs_length _
    refine o_op (v := .bool false) (by rfl) ?_
    repeat (first | refine z_seq ?_ | refine z_region rfl ?_ | refine o_nil ?_ | refine u_seq ?_ | refine z_skip ?_ | refine z_cf rfl ?_ | refine o_mov rfl ?_ | refine o_bslice rfl rfl ?_)
    refine o_append_new (cXs (x :: l)) rfl rfl (elems_vs (cXs_size _)) (by rw [hcl]; exact Nat.succ_ne_zero _) (cXs_cell _) (by decide) look_top (by omega) ?_
    repeat (first | refine o_nil ?_ | refine u_seq ?_ | refine z_ret ?_ | refine o_mov rfl ?_)
    refine u_end ⟨.inr rfl, _, rfl, ⟨by show H.next ≤ H.next + 1 + 1; omega, by show H.clk ≤ H.clk + 1 + 1; omega, fun i _ hi => ?_⟩, .inr ⟨H.next + 1, H.clk + 1, none, [], ?_, ?_, Nat.lt_succ_self _, ?_⟩⟩
    · show Am.look i (_ :: _ :: _) = _
      rw [look_new (by omega), look_new hi]
    · rw [hcl]
    · exact Nat.le_succ _
    · rw [List.append_nil]; exact look_top

-- slices.Delete[[]pneumatic/api.Expr,pneumatic/api.Expr]
def ic41 : IC := .seq (.region [⟨(some 6), .mov (.c (.nils)), none⟩] none)
  (.seq (.region [⟨(some 8), .mov (.t 0), none⟩,
    ⟨(some 9), .mov (.t 1), none⟩,
    ⟨(some 10), .mov (.t 2), none⟩,
    ⟨(some 11), .mov (.t 0), none⟩,
    ⟨(some 12), .len false (.t 11), none⟩,
    ⟨(some 13), .slsl 3 (.t 8) (some (.t 9)) (some (.t 10)) (some (.t 12)), none⟩] none)
  (.seq (.seq (.region [⟨(some 14), .mov (.t 1), none⟩,
    ⟨(some 15), .mov (.t 2), none⟩,
    ⟨(some 16), .bin .eql (.t 14) (.t 15), none⟩] none)
  (.cond (.t 16) (.seq (.region [⟨(some 17), .mov (.t 0), none⟩,
    ⟨(some 6), .mov (.t 17), none⟩] none)
  (.ret))
  (.skip)))
  (.seq (.region [⟨(some 18), .mov (.t 0), none⟩,
    ⟨(some 19), .len false (.t 18), none⟩,
    ⟨(some 7), .mov (.t 19), none⟩] none)
  (.seq (.region [⟨(some 20), .mov (.t 0), none⟩,
    ⟨(some 21), .mov (.t 1), none⟩,
    ⟨(some 22), .slsl 3 (.t 20) none (some (.t 21)) none, none⟩,
    ⟨(some 23), .mov (.t 0), none⟩,
    ⟨(some 24), .mov (.t 2), none⟩,
    ⟨(some 25), .slsl 3 (.t 23) (some (.t 24)) none none, none⟩,
    ⟨(some 26), .append 3 40 [.int .i64 0, .int .i64 0, .nils] (.t 22) (.t 25), none⟩,
    ⟨(some 0), .mov (.t 26), none⟩] (some [[], [], [0, 1], [], [], [3, 4], [2, 5], [6, 6, 0, 1, 2, 3, 4, 5, 6]]))
  (.seq (.region [⟨(some 27), .mov (.t 0), none⟩,
    ⟨(some 28), .mov (.t 0), none⟩,
    ⟨(some 29), .len false (.t 28), none⟩,
    ⟨(some 30), .mov (.t 7), none⟩,
    ⟨(some 31), .slsl 3 (.t 27) (some (.t 29)) (some (.t 30)) none, none⟩,
    ⟨none, .clear 3 [.int .i64 0, .int .i64 0, .nils] (.t 31), none⟩] none)
  (.seq (.region [⟨(some 32), .mov (.t 0), none⟩,
    ⟨(some 6), .mov (.t 32), none⟩] none)
  (.ret)))))))
theorem fn41 : env0.fn 41 = some ⟨33, ic41, [.t 6]⟩ := by kernel_rfl

theorem cXs_drop (l : List Ex) (a : Nat) : (cXs l).drop a = cXs (l.drop a) := by rw [cXs_eq, cXs_eq, List.map_drop]
theorem cXs_erase (l : List Ex) (a : Nat) : (cXs l).eraseIdx a = cXs (l.eraseIdx a) := by
  rw [cXs_eq, cXs_eq, List.eraseIdx_eq_take_drop_succ, List.eraseIdx_eq_take_drop_succ, List.map_append, List.map_take, List.map_drop]

theorem delete66 {w0 : World} {N0 id sp : Nat} {cap : Option Nat} (l : List Ex) (ys : List AV) (hl : l.length ≤ 600) (a : Nat) (ha : a < l.length) (H : HS) (hlk : Am.look id H.heap = some (sp, .cells ((cXs l).flatten ++ ys))) (_hid : id < H.next) :
    FT Try.prog w0 N0 41 [.ms id sp 3 0 l.length cap, .int .i64 (a : Nat), .int .i64 ((a + 1 : Nat) : Int)] H fun v H' => Keep (fun i => i = id) H H' ∧ ∃ c ys', v = .ms id sp 3 0 (l.eraseIdx a).length (some c) ∧ Am.look id H'.heap = some (sp, .cells ((cXs (l.eraseIdx a)).flatten ++ ys')) := by
  refine FT_of_Z env0_ok fn41 [(0, .ms id sp 3 0 l.length cap), (1, .int .i64 (a : Nat)), (2, .int .i64 ((a + 1 : Nat) : Int))] (by show 3 ≤ 33; decide) rfl ?_
  have hel : (l.eraseIdx a).length = a + (l.length - (a + 1)) := by rw [List.length_eraseIdx, if_pos ha]; omega
  have hcl : (cXs l).length = l.length := cXs_length _
  have body : ∀ c : Nat, l.length ≤ c → Zm Try.prog w0 N0 (some none) ic41 (st 33 [(0, .ms id sp 3 0 l.length (some c)), (1, .int .i64 (a : Nat)), (2, .int .i64 ((a + 1 : Nat) : Int))] H.heap H.next H.clk) [] fun e S' => (e = .normal ∨ e = .ret) ∧ ∃ v, S'.leave.res [.t 6] = some v ∧ Keep (fun i => i = id) H S'.leave.hs ∧ ∃ c ys', v = .ms id sp 3 0 (l.eraseIdx a).length (some c) ∧ Am.look id S'.leave.hs.heap = some (sp, .cells ((cXs (l.eraseIdx a)).flatten ++ ys')) := by
    intro c hc
    unfold ic41
    repeat (first | refine z_seq ?_ | refine z_region rfl ?_ | refine o_nil ?_ | refine u_seq ?_ | refine o_mov rfl ?_ | refine o_len rfl rfl ?_)
    refine o_reslice3 rfl rfl rfl rfl (by omega) (by omega) (by omega) (by omega) ?_
    repeat (first | refine z_seq ?_ | refine z_region rfl ?_ | refine o_nil ?_ | refine u_seq ?_ | refine o_mov rfl ?_)
    refine o_cmp rfl rfl rfl (fun h => ?_) fun _ => ?_
    · have : ((a : Nat) : Int) = ((a + 1 : Nat) : Int) := by simpa using h
      omega
    repeat (first | refine z_seq ?_ | refine z_region rfl ?_ | refine o_nil ?_ | refine u_seq ?_ | refine z_skip ?_ | refine z_cf rfl ?_ | refine o_mov rfl ?_ | refine o_len rfl rfl ?_ | refine z_drawn0 env0_ok rfl rfl rfl ?_)
    refine o_slsl rfl rfl rfl rfl rfl (by omega) (by omega) (by omega) ?_
    repeat (first | refine o_mov rfl ?_)
    refine o_slsl rfl rfl rfl rfl rfl (by omega) (by omega) (by omega) ?_
    obtain ⟨ys1, e1, e2⟩ := flat_erase (ys := ys) (cXs_size l) (a := a) (by omega)
    have hdl : ((cXs l).drop (a + 1)).length = l.length - (a + 1) := by rw [List.length_drop, hcl]
    obtain ⟨hp1, k1, k2, k3, k4⟩ : ∃ hp1, (((cXs l).drop (a + 1)).length ≠ 0 → hp1 = putl id (sp, .cells (setAt (a * 3) ((cXs l).flatten ++ ys) ((cXs l).drop (a + 1)).flatten)) H.heap) ∧ (((cXs l).drop (a + 1)).length = 0 → hp1 = H.heap) ∧ Am.look id hp1 = some (sp, .cells ((cXs (l.eraseIdx a)).flatten ++ ys1)) ∧ ∀ i, i ≠ id → Am.look i hp1 = Am.look i H.heap := by
      by_cases h0 : ((cXs l).drop (a + 1)).length = 0
      · refine ⟨H.heap, fun h => absurd h0 h, fun _ => rfl, ?_, fun _ _ => rfl⟩
        rw [List.length_eq_zero_iff.1 h0, List.flatten_nil, setAt_nil] at e1
        rw [hlk, e1, cXs_erase]
      · refine ⟨_, fun _ => rfl, fun h => absurd h h0, ?_, fun i hi => ?_⟩
        · rw [look_putl, if_pos rfl, e1, cXs_erase]
        · rw [look_putl, if_neg fun e => hi e.symm]
    refine o_append_cap ((cXs l).drop (a + 1)) (len := a) (c := c) (cs := (cXs l).flatten ++ ys) rfl rfl (elems_tail (a := a + 1) hlk (cXs_size l) (by omega) (Nat.zero_add _) (by rw [hcl]; rfl)) (by rw [cXs_drop]; exact cXs_cell _) (by decide) hlk ?_ (by omega) (by omega) hp1 k1 k2 ?_
    · rw [List.length_append, flat_length (cXs_size l), hcl, hdl]
      have := Nat.mul_le_mul_right 3 (show a + (l.length - (a + 1)) ≤ l.length by omega)
      omega
    rw [hdl, ← hel]
    repeat (first | refine z_seq ?_ | refine z_region rfl ?_ | refine o_nil ?_ | refine u_seq ?_ | refine o_mov rfl ?_ | refine o_len rfl rfl ?_)
    refine o_reslice rfl rfl rfl rfl rfl (by omega) (by omega) (.inr ⟨c, rfl, by omega⟩) fun c' h1 h2 => ?_
    have hfl : ((cXs (l.eraseIdx a)).flatten).length = (l.eraseIdx a).length * 3 := by rw [flat_length (cXs_size _), cXs_length]
    obtain ⟨ys2, e3⟩ := setAt_behind (off := (l.eraseIdx a).length * 3) (xs := (cXs (l.eraseIdx a)).flatten) (ys := ys1) (vs := repl (((l.length : Nat) : Int).toNat - (l.eraseIdx a).length) [.int .i64 0, .int .i64 0, .nils]) (by rw [hfl]; exact Nat.le_refl _)
    refine o_clear rfl k3 ?_ rfl (by decide) rfl ?_
    · rw [List.length_append, hfl, e2, Nat.zero_add, Int.toNat_natCast, Int.toNat_natCast, hel]
      omega
    rw [Nat.zero_add, Int.toNat_natCast, e3]
    repeat (first | refine z_seq ?_ | refine z_region rfl ?_ | refine o_nil ?_ | refine u_seq ?_ | refine z_ret ?_ | refine o_mov rfl ?_)
    refine u_end ⟨.inr rfl, _, rfl, ⟨Nat.le_refl _, Nat.le_refl _, fun i hi _ => ?_⟩, c, ys2, rfl, ?_⟩
    · show Am.look i (putl id _ hp1) = _
      rw [look_putl, if_neg fun e => hi e.symm]
      exact k4 i hi
    · show Am.look id (putl id _ hp1) = _
      rw [look_putl, if_pos rfl]
  exact z_cap 0 rfl fun c hc => z_sub (sub_keep (.cons rfl (.cons rfl (.cons rfl .nil)))) (body c hc)

end Go.Proofs.Ytoiblgbaeglgoaa
