/-
  THE SEARCH FROM HOME: homing.levels.
-/
import Derived.Test.YtoiblgbaeglgoaaYH8
namespace Go.Proofs.Ytoiblgbaeglgoaa
open Go Go.Am

noncomputable def ca96_0 : Code := match env0.fn 96 with
  | some i => ((rangesOf i.ic)[0]?.getD (.skip, .skip)).1
  | none => .skip

noncomputable def cb96_0 : Code := match env0.fn 96 with
  | some i => ((rangesOf i.ic)[0]?.getD (.skip, .skip)).2
  | none => .skip

def b96_2 : IC := .seq (.region [⟨(some 36), .bin .lss (.t 35) (.t 34), none⟩] none)
  (.seq (.cond (.t 36) (.skip)
  (.exit 2))
  (.seq (.block 3 (.seq (.region [⟨(some 37), .idxs 2 (.t 33) (.t 35), none⟩,
    ⟨(some 38), .load (some 2) (.t 37), none⟩,
    ⟨(some 9), .alloc [.int .i64 0, .bool false], none⟩,
    ⟨none, .store 2 (.t 9) (.t 38), none⟩] none)
  (.seq (.region [⟨(some 39), .mov (.t 7), none⟩,
    ⟨(some 40), .faddr 0 (.t 9), none⟩,
    ⟨(some 41), .load none (.t 40), none⟩,
    ⟨(some 42), .bin .shl (.c (.int .i64 1)) (.t 41), none⟩,
    ⟨(some 43), .bin .xor (.t 39) (.t 42), none⟩,
    ⟨(some 10), .mov (.t 43), none⟩] none)
  (.seq (.region [⟨(some 44), .load none (.t 5), none⟩,
    ⟨(some 45), .mov (.t 10), none⟩,
    ⟨(some 46), .idxs 1 (.t 44) (.t 45), none⟩,
    ⟨(some 47), .load none (.t 46), none⟩,
    ⟨(some 48), .bin .lss (.t 47) (.c (.int .i64 0)), none⟩] none)
  (.cond (.t 48) (.seq (.region [⟨(some 49), .load none (.t 5), none⟩,
    ⟨(some 50), .mov (.t 10), none⟩,
    ⟨(some 51), .load none (.t 5), none⟩,
    ⟨(some 52), .mov (.t 7), none⟩,
    ⟨(some 53), .idxs 1 (.t 51) (.t 52), none⟩,
    ⟨(some 54), .load none (.t 53), none⟩,
    ⟨(some 55), .bin .add (.t 54) (.c (.int .i64 1)), none⟩,
    ⟨(some 56), .idxs 1 (.t 49) (.t 50), none⟩,
    ⟨none, .store 1 (.t 56) (.t 55), none⟩] (some [[], [], [], [], [2, 3], [4], [5], [0, 1, 0, 1, 2, 3, 4, 5, 6], [7, 6, 0, 1, 2, 3, 4, 5, 6]]))
  (.region [⟨(some 57), .load none (.t 6), none⟩,
    ⟨(some 58), .mov (.t 10), none⟩,
    ⟨(some 59), .call (.c (.fn 141 [] [])) [(.t 57), (.t 58)], none⟩] none))
  (.skip))))))
  (.region [⟨(some 60), .bin .add (.t 35) (.c (.int .i64 1)), none⟩,
    ⟨(some 35), .mov (.t 60), none⟩] none)))

def asg96_0 : IC := .region [⟨(some 7), .mov (.t 29), none⟩] none

def rb96_0 : IC := .block 1 (.seq (.region [⟨(some 30), .load (some 1) (.t 2), none⟩,
    ⟨(some 31), .load none (.t 3), none⟩,
    ⟨(some 32), .mov (.t 7), none⟩,
    ⟨(some 33), .call (.c (.fn 101 [] [])) [(.t 30), (.t 31), (.t 32)], none⟩,
    ⟨(some 34), .len false (.t 33), none⟩,
    ⟨(some 35), .mov (.c (.int .i64 0)), none⟩] none)
  (.block 2 (.loop b96_2)))

-- pneumatic/homing.levels
noncomputable def ic96 : IC := .seq (.region [⟨(some 2), .box (.t 0), none⟩,
    ⟨(some 3), .box (.t 1), none⟩,
    ⟨(some 4), .mov (.c (.nils)), none⟩] none)
  (.seq (.region [⟨(some 11), .bslice 1 1 [.int .i64 0] [(0, 1, (.c (.int .i64 (-1))))], none⟩,
    ⟨(some 12), .load none (.t 3), none⟩,
    ⟨(some 13), .bin .shl (.c (.int .i64 1)) (.t 12), none⟩,
    ⟨(some 14), .call (.c (.fn 81 [] [])) [(.t 11), (.t 13)], none⟩,
    ⟨(some 5), .alloc [.nils], none⟩,
    ⟨none, .store 1 (.t 5) (.t 14), none⟩] none)
  (.seq (.seq (.region [⟨(some 15), .load (some 1) (.t 2), none⟩,
    ⟨(some 16), .load none (.t 3), none⟩,
    ⟨(some 17), .call (.c (.fn 95 [] [])) [(.t 16), (.c (.int .i64 0))], none⟩,
    ⟨(some 18), .call (.c (.fn 94 [] [])) [(.t 15), (.t 17)], none⟩,
    ⟨(some 19), .un .not (.t 18), none⟩] (some [[], [], [1], [0, 2, 2], [3]]))
  (.cond (.t 19) (.seq (.region [⟨(some 20), .load none (.t 5), none⟩,
    ⟨(some 4), .mov (.t 20), none⟩] none)
  (.ret))
  (.skip)))
  (.seq (.region [⟨(some 21), .load none (.t 5), none⟩,
    ⟨(some 22), .idxs 1 (.t 21) (.c (.int .i64 0)), none⟩,
    ⟨none, .store 1 (.t 22) (.c (.int .i64 0)), none⟩] none)
  (.seq (.region [⟨(some 23), .build [.nils] [], none⟩,
    ⟨(some 24), .box (.t 23), none⟩,
    ⟨(some 6), .alloc [.nilp], none⟩,
    ⟨none, .store 1 (.t 6) (.t 24), none⟩] none)
  (.seq (.region [⟨(some 25), .load none (.t 6), none⟩,
    ⟨(some 26), .call (.c (.fn 141 [] [])) [(.t 25), (.c (.int .i64 0))], none⟩] none)
  (.seq (.seq (.region [⟨(some 27), .load none (.t 6), none⟩,
    ⟨(some 28), .call (.c (.fn 142 [] [])) [(.t 27)], none⟩] none)
  (.block 0 (.rangeFunc (.t 28) [29] ca96_0 cb96_0 asg96_0 rb96_0)))
  (.seq (.region [⟨(some 61), .load none (.t 5), none⟩,
    ⟨(some 4), .mov (.t 61), none⟩] none)
  (.ret))))))))
theorem fn96 : env0.fn 96 = some ⟨62, ic96, [.t 4]⟩ := by kernel_rfl

def kI (k : Nat) : AV := .int .i64 (k : Nat)

structure QS (N : Nat) (stt : LoopState) (ltm : List (Nat × AV)) (out : List Int) (q : List Nat) (H : HS) : Prop where
  nx : 8 ≤ H.next
  h7 : Am.look 7 H.heap = some (2, .loop stt none 62 (tmOf ltm) [29] ca96_0 cb96_0 (6, 1))
  h6 : Am.look 6 H.heap = some (1, .deferred)
  h0 : Am.look 0 H.heap = some (0, .cells [.ms 1 0 1 0 N (some N)])
  h1 : Am.look 1 H.heap = some (0, .cells (out.map (AV.int .i64)))
  h2 : Am.look 2 H.heap = some (0, .cells [.mptr 3 0 0])
  h5 : Am.look 5 H.heap = some (0, .cells [.mptr 3 0 0])
  hq : ∃ sq off cs, Am.look 3 H.heap = some (0, .cells [.ms 4 sq 1 off q.length none]) ∧ Am.look 4 H.heap = some (sq, .cells cs) ∧ off + q.length ≤ cs.length ∧ (cs.drop off).take q.length = q.map kI

-- (*pneumatic/homing.queue[int]).all$1
def ic161 : IC := .block 0 (.loop (.seq (.seq (.region [⟨(some 4), .load none (.t 1), none⟩,
    ⟨(some 5), .nilchk (.t 4), none⟩,
    ⟨(some 6), .faddr 0 (.t 5), none⟩,
    ⟨(some 7), .load none (.t 6), none⟩,
    ⟨(some 8), .len false (.t 7), none⟩,
    ⟨(some 9), .bin .gtr (.t 8) (.c (.int .i64 0)), none⟩] none)
  (.cond (.t 9) (.skip)
  (.exit 0)))
  (.block 1 (.seq (.region [⟨(some 10), .load none (.t 1), none⟩,
    ⟨(some 11), .nilchk (.t 10), none⟩,
    ⟨(some 12), .faddr 0 (.t 11), none⟩,
    ⟨(some 13), .load none (.t 12), none⟩,
    ⟨(some 14), .idxs 1 (.t 13) (.c (.int .i64 0)), none⟩,
    ⟨(some 15), .load none (.t 14), none⟩,
    ⟨(some 3), .mov (.t 15), none⟩] none)
  (.seq (.region [⟨(some 16), .load none (.t 1), none⟩,
    ⟨(some 17), .load none (.t 1), none⟩,
    ⟨(some 18), .nilchk (.t 17), none⟩,
    ⟨(some 19), .faddr 0 (.t 18), none⟩,
    ⟨(some 20), .load none (.t 19), none⟩,
    ⟨(some 21), .slsl 1 (.t 20) (some (.c (.int .i64 1))) none none, none⟩,
    ⟨(some 22), .nilchk (.t 16), none⟩,
    ⟨(some 23), .faddr 0 (.t 22), none⟩,
    ⟨none, .store 1 (.t 23) (.t 21), none⟩] (some [[], [], [1], [2], [3], [4], [0, 0, 1, 2, 3, 4, 5], [6, 0, 1, 2, 3, 4, 5], [7, 5, 0, 1, 2, 3, 4, 5]]))
  (.seq (.region [⟨(some 24), .mov (.t 0), none⟩,
    ⟨(some 25), .mov (.t 3), none⟩,
    ⟨(some 26), .call (.t 24) [(.t 25)], none⟩,
    ⟨(some 27), .un .not (.t 26), none⟩] none)
  (.cond (.t 27) (.ret)
  (.skip))))))))
theorem fn161 : env0.fn 161 = some ⟨28, ic161, []⟩ := by kernel_rfl

theorem BI_pop {n k : Nat} {out : List Int} {q : List Nat} (h : BI n (out, k :: q)) : BI n (out, q) ∧ k < 2 ^ n ∧ 0 ≤ out.getD k 0 :=
  ⟨⟨h.len, fun y hy => h.q y (List.mem_cons_of_mem _ hy), h.lo, h.hi, by have := h.ql; simp only [List.length_cons] at this; show q.length ≤ _; omega⟩, h.q k (List.mem_cons_self ..)⟩

theorem visit_BI {l : List Ex} {n k : Nat} (h1 : 1 ≤ n) (h4 : n ≤ 4) (hk : k < 2 ^ n) : ∀ (ms : List Nat) (s : List Int × List Nat), BI n s → 0 ≤ s.1.getD k 0 → s.2.length + negs s.1 ≤ 2 ^ n →
    BI n (ms.foldl (push n k) s) ∧ (ms.foldl (push n k) s).2.length + negs (ms.foldl (push n k) s).1 = s.2.length + negs s.1
  | [], s, h, _, _ => ⟨h, rfl⟩
  | i :: ms, s, h, h0, hm => by
    obtain ⟨a, b, c⟩ := push_BI (i := i) h1 h4 hk h h0 hm
    obtain ⟨d, e⟩ := visit_BI (l := l) h1 h4 hk ms _ a b (by omega)
    exact ⟨d, e.trans c⟩

set_option maxHeartbeats 4000000 in
theorem range161 {w0 : World} {N0 n : Nat} {l : List Ex} {ltm : List (Nat × AV)} (h1 : 1 ≤ n) (h4 : n ≤ 4)
    (hy : ∀ (out : List Int) (k : Nat) (q : List Nat) (H : HS), BI n (out, q) → k < 2 ^ n → 0 ≤ out.getD k 0 → q.length + negs out ≤ 2 ^ n → QS (2 ^ n) .ready ltm out q H →
      CT Try.prog w0 N0 (.yield 7 2) [.int .i64 (k : Nat)] H fun v H' => v = .bool true ∧ Keep (fun j => j < 8) H H' ∧ QS (2 ^ n) .ready ltm (visit l n k (out, q)).1 (visit l n k (out, q)).2 H')
    (H : HS) (out0 : List Int) (q0 : List Nat) (f : Nat) (hI : QS (2 ^ n) .ready ltm out0 q0 H) (hB : BI n (out0, q0)) (hm : q0.length + negs out0 ≤ 2 ^ n) (hf : q0.length + negs out0 < f) :
    FT Try.prog w0 N0 161 [.yield 7 2, .mptr 5 0 0] H fun _ H' => Keep (fun j => j < 8) H H' ∧ ∃ q', QS (2 ^ n) .ready ltm (bfs l n f (out0, q0)) q' H' := by
  refine FT_of_Z env0_ok fn161 [(0, .yield 7 2), (1, .mptr 5 0 0)] (by show 2 ≤ 28; decide) rfl ?_
  unfold ic161
  refine z_block ?_
  refine z_loop (fun mm S => ∃ out q H' f', mm = q.length + negs out ∧ mm < f' ∧ BI n (out, q) ∧ mm ≤ 2 ^ n ∧ bfs l n f (out0, q0) = bfs l n f' (out, q) ∧ QS (2 ^ n) .ready ltm out q H' ∧ Keep (fun j => j < 8) H H' ∧
      S = st 28 [(0, .yield 7 2), (1, .mptr 5 0 0)] H'.heap H'.next H'.clk) (q0.length + negs out0)
    (sub_keep (.cons rfl (.cons rfl .nil))) ⟨out0, q0, H, f, rfl, hf, hB, hm, rfl, hI, Keep.refl _ H, rfl⟩ ?_
  rintro mm S ⟨out, q, H', f', rfl, hf', hB', hm', hbf, hI', hK', rfl⟩
  obtain ⟨nx, h7, h6, g0, g1, g2, g5, sq, off, cs, g3, gq, hlen, hcs⟩ := hI'
  repeat (first | refine z_seq ?_ | refine z_region rfl ?_)
  refine o_loadm (sp := 0) rfl g5 (by omega) rfl ?_
  repeat (first | refine o_faddrm rfl ?_ | refine o_nilm rfl ?_)
  refine o_loadm (sp := 0) rfl g3 (by omega) rfl ?_
  repeat (first | refine o_len rfl rfl ?_)
  cases q with
  | nil =>
    refine o_cmp rfl rfl rfl (fun h => absurd h (by simp)) fun _ => ?_
    repeat (first | refine o_nil ?_ | refine u_seq ?_ | refine z_cf rfl ?_ | refine z_exit ?_ | refine u_exit_seq ?_)
    refine u_out ?_
    repeat (first | refine u_exit ?_)
    refine u_end ⟨.inl rfl, _, rfl, hK', [], ?_⟩
    obtain ⟨f2, rfl⟩ : ∃ f2, f' = f2 + 1 := ⟨f' - 1, by omega⟩
    rw [hbf, bfs]
    exact ⟨nx, h7, h6, g0, g1, g2, g5, sq, off, cs, g3, gq, hlen, hcs⟩
  | cons k q =>
    refine o_cmp rfl rfl rfl (fun _ => ?_) fun h => absurd h (by simp)
    obtain ⟨hBp, hk, hk0⟩ := BI_pop hB'
    have hl1 : off + (q.length + 1) ≤ cs.length := hlen
    have hhd : cs[off + (0 : Int).toNat * 1]? = some (.int .i64 (k : Nat)) := by
      have e : ((cs.drop off).take (k :: q).length)[0]? = some (kI k) := by rw [hcs]; rfl
      rw [List.getElem?_take, if_pos (by simp), List.getElem?_drop] at e
      exact e
    repeat (first | refine z_seq ?_ | refine z_region rfl ?_ | refine o_nil ?_ | refine u_seq ?_ | refine z_block ?_ | refine z_skip ?_ | refine z_ct rfl ?_)
    refine o_loadm (sp := 0) rfl g5 (by omega) rfl ?_
    repeat (first | refine o_faddrm rfl ?_ | refine o_nilm rfl ?_)
    refine o_loadm (sp := 0) rfl g3 (by omega) rfl ?_
    refine o_idxsm rfl rfl (by decide) (by simp only [List.length_cons]; omega) ?_
    refine o_loadg rfl gq (by omega) hhd ?_
    repeat (first | refine z_seq ?_ | refine o_nil ?_ | refine u_seq ?_ | refine o_mov rfl ?_ | refine z_drawn0 env0_ok rfl rfl rfl ?_)
    refine o_loadm (sp := 0) rfl g5 (by omega) rfl ?_
    refine o_loadm (sp := 0) rfl g5 (by omega) rfl ?_
    repeat (first | refine o_faddrm rfl ?_ | refine o_nilm rfl ?_)
    refine o_loadm (sp := 0) rfl g3 (by omega) rfl ?_
    refine o_slsl rfl rfl rfl rfl rfl (by decide) (by simp only [List.length_cons]; omega) (Int.le_refl _) ?_
    repeat (first | refine o_faddrm rfl ?_ | refine o_nilm rfl ?_)
    refine o_store (sp := 0) rfl rfl rfl rfl g3 rfl rfl ?_
    repeat (first | refine z_seq ?_ | refine z_region rfl ?_ | refine o_nil ?_ | refine u_seq ?_ | refine o_mov rfl ?_)
    simp only [List.length_cons] at hf' hm'
    refine o_ct _ rfl rfl (hy out k q ⟨_, _, _⟩ hBp hk hk0 (by omega) ⟨nx, (by (repeat (first | rw [look_putl, if_pos rfl] | rw [look_putl, if_neg (by decide)] | rw [look_dropl, if_neg (by decide)])); all_goals (first | rfl | assumption)), (by (repeat (first | rw [look_putl, if_pos rfl] | rw [look_putl, if_neg (by decide)] | rw [look_dropl, if_neg (by decide)])); all_goals (first | rfl | assumption)), (by (repeat (first | rw [look_putl, if_pos rfl] | rw [look_putl, if_neg (by decide)] | rw [look_dropl, if_neg (by decide)])); all_goals (first | rfl | assumption)), (by (repeat (first | rw [look_putl, if_pos rfl] | rw [look_putl, if_neg (by decide)] | rw [look_dropl, if_neg (by decide)])); all_goals (first | rfl | assumption)), (by (repeat (first | rw [look_putl, if_pos rfl] | rw [look_putl, if_neg (by decide)] | rw [look_dropl, if_neg (by decide)])); all_goals (first | rfl | assumption)), (by (repeat (first | rw [look_putl, if_pos rfl] | rw [look_putl, if_neg (by decide)] | rw [look_dropl, if_neg (by decide)])); all_goals (first | rfl | assumption)), sq, off + 1, cs, ?_, (by (repeat (first | rw [look_putl, if_pos rfl] | rw [look_putl, if_neg (by decide)] | rw [look_dropl, if_neg (by decide)])); all_goals (first | rfl | assumption)), by omega, ?_⟩) (fun _ _ _ _ hm => absurd hm List.not_mem_nil) fun v2 H3 hF3 => ?_
    · show Am.look 3 (putl 3 _ H'.heap) = _
      rw [look_putl, if_pos rfl]
      have e : ((q.length + 1 : Nat) : Int).toNat - (1 : Int).toNat = q.length := by omega
      show some (0, AObj.cells [.ms 4 sq 1 (off + 1) (((q.length + 1 : Nat) : Int).toNat - (1 : Int).toNat) none]) = _
      rw [e]
    · have e : ((cs.drop off).take (q.length + 1)).drop 1 = (q.map kI) := by
        have := congrArg (List.drop 1) hcs
        exact this
      rw [List.drop_take, List.drop_drop] at e
      exact e
    obtain ⟨rfl, hK3, hI3⟩ := hF3
    obtain ⟨hv1, hv2⟩ := visit_BI (l := l) h1 h4 hk (mv l n k) (out, q) hBp hk0 (by show q.length + negs out ≤ _; omega)
    obtain ⟨f2, rfl⟩ : ∃ f2, f' = f2 + 1 := ⟨f' - 1, by omega⟩
    have hvm : (visit l n k (out, q)).2.length + negs (visit l n k (out, q)).1 = q.length + negs out := hv2
    have hKK : Keep (fun j => j < 8) H H3 := by
      refine Keep.trans (H' := ⟨putl 3 (0, AObj.cells (setAt 0 [AV.ms 4 sq 1 off (q.length + 1) none] [.ms 4 sq 1 (off + (1 : Int).toNat * 1) (((q.length + 1 : Nat) : Int).toNat - (1 : Int).toNat) none])) H'.heap, H'.next, H'.clk⟩) ?_ hK3
      refine ⟨hK'.next, hK'.clk, fun j hj hj2 => ?_⟩
      show Am.look j (putl 3 _ H'.heap) = _
      rw [look_putl, if_neg (by omega)]
      exact hK'.look j hj hj2
    repeat (first | refine o_nil ?_ | refine u_seq ?_ | refine u_blk ?_ | refine z_skip ?_ | refine z_cf rfl ?_ | refine o_un rfl rfl ?_)
    exact u_round (show (visit l n k (out, q)).2.length + negs (visit l n k (out, q)).1 < (k :: q).length + negs out by rw [hvm, List.length_cons]; omega) (sub_keep (.cons rfl (.cons rfl .nil))) ⟨_, _, H3, f2, rfl, by omega, hv1, by omega, hbf, hI3, hKK, rfl⟩

def l96 (l : List Ex) (n : Nat) : List (Nat × AV) := [(2, .vptr [.vs (cXs l)]), (3, .vptr [.int .i64 (n : Nat)]), (5, .mptr 0 0 0), (6, .mptr 2 0 0), (28, .fn 161 [] [.mptr 5 0 0])]

set_option maxHeartbeats 8000000 in
theorem yield96 {w0 : World} {N0 n : Nat} {l : List Ex} (hsl : ∀ y ∈ l, Slim y) (h1 : 1 ≤ n) (h4 : n ≤ 4) (hg : guardC l n = 0) (ha : Com Try.prog ca96_0 asg96_0) (hb : Com Try.prog cb96_0 rb96_0)
    (out : List Int) (k : Nat) (q : List Nat) (H : HS) (hBI : BI n (out, q)) (hk : k < 2 ^ n) (hk0 : 0 ≤ out.getD k 0) (hm : q.length + negs out ≤ 2 ^ n) (hQ : QS (2 ^ n) .ready (l96 l n) out q H) :
    CT Try.prog w0 N0 (.yield 7 2) [.int .i64 (k : Nat)] H fun v H' => v = .bool true ∧ Keep (fun j => j < 8) H H' ∧ QS (2 ^ n) .ready (l96 l n) (visit l n k (out, q)).1 (visit l n k (out, q)).2 H' := by
  obtain ⟨nx, h7, h6, g0, g1, g2, g5, hq⟩ := hQ
  have hbl := bitsE_len n k
  have hib := idx_bits h1 h4 hk
  have hmv := moves101 l hsl (bitsE n k) (by rw [hbl]; exact h1) (by rw [hbl]; exact h4) (by rw [hbl]; exact hg)
  rw [hbl, hib, moves_mv] at hmv
  have hml : (cSs ((mv l n k).map fun i => ⟨(i : Nat), !((bitsE n k).getD i false)⟩)).length = (mv l n k).length := by rw [cSs_length, List.length_map]
  have hmn : (mv l n k).length ≤ n := by
    have := List.length_filter_le (fun i => mayB l (bitsE n k) i) (List.range n)
    rwa [List.length_range] at this
  have hp4 := pow4 h4
  refine ct_yield (l0 := (29, .int .i64 (k : Nat)) :: l96 l n) h7 ha hb rfl (by decide) rfl ?_
  unfold asg96_0
  repeat (first | refine z_region rfl ?_ | refine o_nil ?_ | refine o_mov rfl ?_)
  refine u_end ⟨rfl, _, rfl, ?_⟩
  unfold rb96_0 l96
  repeat (first | refine z_seq ?_ | refine z_region rfl ?_ | refine z_block ?_ | refine o_mov rfl ?_ | refine o_load rfl rfl ?_ | refine o_loadn rfl rfl rfl rfl ?_)
  refine o_call rfl rfl hmv (fun h => Bool.noConfusion (show false = true from h)) ?_
  repeat (first | refine o_nil ?_ | refine u_seq ?_ | refine z_block ?_ | refine o_mov rfl ?_ | refine o_len rfl rfl ?_)
  rw [hml]
  refine z_loop (fun mm S => ∃ j out' q' H', mm = (mv l n k).length - j ∧ j ≤ (mv l n k).length ∧ visit l n k (out, q) = ((mv l n k).drop j).foldl (push n k) (out', q') ∧ BI n (out', q') ∧ 0 ≤ out'.getD k 0 ∧ q'.length + negs out' ≤ 2 ^ n ∧
      QS (2 ^ n) .busy (l96 l n) out' q' H' ∧ Keep (fun j => j < 8) H H' ∧
      S = st 62 [(5, .mptr 0 0 0), (6, .mptr 2 0 0), (7, .int .i64 (k : Nat)), (33, .vs (cSs ((mv l n k).map fun i => ⟨(i : Nat), !((bitsE n k).getD i false)⟩))), (34, .int .i64 ((mv l n k).length : Nat)), (35, .int .i64 (j : Nat))] H'.heap H'.next H'.clk) (mv l n k).length
    (sub_keep (l' := [(5, .mptr 0 0 0), (6, .mptr 2 0 0), (7, .int .i64 (k : Nat)), (33, .vs (cSs ((mv l n k).map fun i => ⟨(i : Nat), !((bitsE n k).getD i false)⟩))), (34, .int .i64 ((mv l n k).length : Nat)), (35, .int .i64 ((0 : Nat) : Int))]) (.cons rfl (.cons rfl (.cons rfl (.cons rfl (.cons rfl (.cons rfl .nil)))))))
    ⟨0, out, q, ⟨putl 7 (2, .loop .busy none 62 (tmOf (l96 l n)) [29] ca96_0 cb96_0 (6, 1)) H.heap, H.next, H.clk⟩, rfl, Nat.zero_le _, rfl, hBI, hk0, hm, ⟨nx, by show Am.look 7 (putl 7 _ _) = _; rw [look_putl, if_pos rfl], (by (repeat (first | rw [look_putl, if_pos rfl] | rw [look_putl, if_neg (by decide)] | rw [look_dropl, if_neg (by decide)])); all_goals (first | rfl | assumption)), (by (repeat (first | rw [look_putl, if_pos rfl] | rw [look_putl, if_neg (by decide)] | rw [look_dropl, if_neg (by decide)])); all_goals (first | rfl | assumption)), (by (repeat (first | rw [look_putl, if_pos rfl] | rw [look_putl, if_neg (by decide)] | rw [look_dropl, if_neg (by decide)])); all_goals (first | rfl | assumption)), (by (repeat (first | rw [look_putl, if_pos rfl] | rw [look_putl, if_neg (by decide)] | rw [look_dropl, if_neg (by decide)])); all_goals (first | rfl | assumption)), (by (repeat (first | rw [look_putl, if_pos rfl] | rw [look_putl, if_neg (by decide)] | rw [look_dropl, if_neg (by decide)])); all_goals (first | rfl | assumption)), ?_⟩, ⟨Nat.le_refl _, Nat.le_refl _, fun j hj _ => ?_⟩, rfl⟩ ?_
  · obtain ⟨sq, off, cs, a, b, c⟩ := hq
    exact ⟨sq, off, cs, (by (repeat (first | rw [look_putl, if_pos rfl] | rw [look_putl, if_neg (by decide)] | rw [look_dropl, if_neg (by decide)])); all_goals (first | rfl | assumption)), (by (repeat (first | rw [look_putl, if_pos rfl] | rw [look_putl, if_neg (by decide)] | rw [look_dropl, if_neg (by decide)])); all_goals (first | rfl | assumption)), c⟩
  · show Am.look j (putl 7 _ H.heap) = _
    rw [look_putl, if_neg (by omega)]
  rintro mm S ⟨j, out', q', H', rfl, hj, hvis, hB', hk0', hm', hQ', hK', rfl⟩
  obtain ⟨nx', i7, i6, i0, i1, i2, i5, sq, off, cs, i3, iq, hlen, hcs⟩ := hQ'
  unfold b96_2
  repeat (first | refine z_seq ?_ | refine z_region rfl ?_)
  refine o_cmp rfl rfl rfl (fun h3 => ?_) fun h3 => ?_
  · have hlt : j < (mv l n k).length := by
      have := of_decide_eq_true h3
      omega
    have hi := mv_lt (List.getElem_mem hlt)
    rw [List.drop_eq_getElem_cons hlt, List.foldl_cons] at hvis
    have hge : (cSs ((mv l n k).map fun i => ⟨(i : Nat), !((bitsE n k).getD i false)⟩))[((j : Nat) : Int).toNat]? = some [.int .i64 ((mv l n k)[j] : Nat), .bool (!((bitsE n k).getD (mv l n k)[j] false))] := by
      have := cSs_get (l := (mv l n k).map fun i => (⟨(i : Nat), !((bitsE n k).getD i false)⟩ : Sk)) (i := j) (by rw [List.length_map]; exact hlt)
      rw [List.getElem_map] at this
      exact this
    generalize (mv l n k)[j] = i at hi hvis hge
    have hy := nxt_lt (k := k) (i := i) h1 h4
    have hx := xorE (e := bitsE n k) (by rw [hbl]; exact h1) (by rw [hbl]; exact h4) (by rw [hbl]; exact hi)
    rw [hib, show idxE (flipE (bitsE n k) i) = nxt n k i from rfl] at hx
    have hol := hB'.len
    have hol : out'.length = 2 ^ n := hol
    have hgy : (out'.map (AV.int .i64))[0 + ((nxt n k i : Nat) : Int).toNat * 1]? = some (.int .i64 (out'.getD (nxt n k i) 0)) := by
      rw [show 0 + ((nxt n k i : Nat) : Int).toNat * 1 = nxt n k i from by omega, List.getElem?_map, List.getD_eq_getElem?_getD, List.getElem?_eq_getElem (by omega)]
      rfl
    have hgk : (out'.map (AV.int .i64))[0 + ((k : Nat) : Int).toNat * 1]? = some (.int .i64 (out'.getD k 0)) := by
      rw [show 0 + ((k : Nat) : Int).toNat * 1 = k from by omega, List.getElem?_map, List.getD_eq_getElem?_getD, List.getElem?_eq_getElem (by omega)]
      rfl
    have hp := push_BI (i := i) h1 h4 hk hB' hk0' hm'
    repeat (first | refine z_seq ?_ | refine z_region rfl ?_ | refine o_nil ?_ | refine u_seq ?_ | refine z_block ?_ | refine z_skip ?_ | refine z_ct rfl ?_ | refine o_loadn rfl rfl rfl rfl ?_ | refine o_alloc ?_ | refine o_idxs rfl rfl (by omega) (by assumption) rfl ?_)
    refine o_store (sp := H'.clk) rfl rfl rfl rfl look_top rfl rfl ?_
    rw [putl_top]
    repeat (first | refine z_seq ?_ | refine z_region rfl ?_ | refine o_nil ?_ | refine u_seq ?_ | refine o_mov rfl ?_ | refine o_faddrm rfl ?_)
    refine o_loadm (sp := H'.clk) rfl look_top (Nat.lt_succ_self _) rfl ?_
    refine o_bin (op := .shl) rfl rfl (shl1 (show i < 4 by omega)) ?_
    refine o_bin (op := .xor) rfl rfl hx ?_
    repeat (first | refine z_seq ?_ | refine z_region rfl ?_ | refine o_nil ?_ | refine u_seq ?_ | refine o_mov rfl ?_)
    have z0 := (look_new (v := (H'.clk, AObj.cells [.int .i64 (i : Nat), .bool (!((bitsE n k).getD i false))])) (hp := H'.heap) (show 0 < H'.next by omega)).trans i0
    have z1 := (look_new (v := (H'.clk, AObj.cells [.int .i64 (i : Nat), .bool (!((bitsE n k).getD i false))])) (hp := H'.heap) (show 1 < H'.next by omega)).trans i1
    have z2 := (look_new (v := (H'.clk, AObj.cells [.int .i64 (i : Nat), .bool (!((bitsE n k).getD i false))])) (hp := H'.heap) (show 2 < H'.next by omega)).trans i2
    have z3 := (look_new (v := (H'.clk, AObj.cells [.int .i64 (i : Nat), .bool (!((bitsE n k).getD i false))])) (hp := H'.heap) (show 3 < H'.next by omega)).trans i3
    have z4 := (look_new (v := (H'.clk, AObj.cells [.int .i64 (i : Nat), .bool (!((bitsE n k).getD i false))])) (hp := H'.heap) (show 4 < H'.next by omega)).trans iq
    have z5 := (look_new (v := (H'.clk, AObj.cells [.int .i64 (i : Nat), .bool (!((bitsE n k).getD i false))])) (hp := H'.heap) (show 5 < H'.next by omega)).trans i5
    have z6 := (look_new (v := (H'.clk, AObj.cells [.int .i64 (i : Nat), .bool (!((bitsE n k).getD i false))])) (hp := H'.heap) (show 6 < H'.next by omega)).trans i6
    have z7 := (look_new (v := (H'.clk, AObj.cells [.int .i64 (i : Nat), .bool (!((bitsE n k).getD i false))])) (hp := H'.heap) (show 7 < H'.next by omega)).trans i7
    refine o_loadm (sp := 0) rfl z0 (by omega) rfl ?_
    repeat (first | refine o_mov rfl ?_ | refine o_idxsm rfl rfl (by omega) (by omega) ?_)
    refine o_loadg rfl z1 (by omega) hgy ?_
    refine o_cmp rfl rfl rfl (fun h => ?_) fun h => ?_
    · have hneg : out'.getD (nxt n k i) 0 < 0 := of_decide_eq_true h
      have hpe : push n k (out', q') i = (out'.set (nxt n k i) (out'.getD k 0 + 1), q' ++ [nxt n k i]) := if_pos hneg
      rw [hpe] at hp hvis
      obtain ⟨hp1, hp2, hp3⟩ := hp
      have hkh := hB'.hi _ (getD_mem (y := k) (by show k < out'.length; omega))
      have hkh : out'.getD k 0 + negs out' + 1 ≤ ((2 ^ n : Nat) : Int) := hkh
      repeat (first | refine z_seq ?_ | refine o_nil ?_ | refine u_seq ?_ | refine z_ct rfl ?_ | refine z_drawn0 env0_ok rfl rfl rfl ?_)
      refine o_loadm (sp := 0) rfl z0 (by omega) rfl ?_
      repeat (first | refine o_mov rfl ?_)
      refine o_loadm (sp := 0) rfl z0 (by omega) rfl ?_
      repeat (first | refine o_mov rfl ?_ | refine o_idxsm rfl rfl (by omega) (by omega) ?_)
      refine o_loadg rfl z1 (by omega) hgk ?_
      repeat (first | refine o_bin (op := .add) rfl rfl rfl ?_ | refine o_idxsm rfl rfl (by omega) (by omega) ?_)
      rw [wrap_in _ (by omega) (by omega)]
      refine o_storeg rfl rfl rfl z1 (by rw [List.length_map]; omega) rfl ?_
      repeat (first | refine z_region rfl ?_ | refine o_nil ?_ | refine u_seq ?_)
      refine o_loadm (sp := 0) rfl (by (repeat (first | rw [look_putl, if_pos rfl] | rw [look_putl, if_neg (by decide)] | rw [look_dropl, if_neg (by decide)])); all_goals (first | rfl | assumption)) (by omega) rfl ?_
      repeat (first | refine o_mov rfl ?_)
      have hset : (out'.map (AV.int .i64)).set (0 + ((nxt n k i : Nat) : Int).toNat * 1) (.int .i64 (out'.getD k 0 + 1)) = (out'.set (nxt n k i) (out'.getD k 0 + 1)).map (AV.int .i64) := by
        rw [show 0 + ((nxt n k i : Nat) : Int).toNat * 1 = nxt n k i from by omega, List.map_set]
      rw [hset]
      refine o_ct _ rfl rfl (ct_fn (put141 (a := 3) (sa := 0) (qid := 4) (sq := sq) (off := off) (len := q'.length) (cs := cs) _ ⟨_, _, _⟩ (by (repeat (first | rw [look_putl, if_pos rfl] | rw [look_putl, if_neg (by decide)] | rw [look_dropl, if_neg (by decide)])); all_goals (first | rfl | assumption)) (show 3 < H'.next + 1 by omega) (by (repeat (first | rw [look_putl, if_pos rfl] | rw [look_putl, if_neg (by decide)] | rw [look_dropl, if_neg (by decide)])); all_goals (first | rfl | assumption)) (by decide) hlen (by omega))) (fun _ _ _ _ hm => absurd hm List.not_mem_nil) fun v2 H4 hF4 => ?_
      subst hF4
      repeat (first | refine z_region rfl ?_ | refine o_nil ?_ | refine u_seq ?_ | refine u_blk ?_ | refine o_mov rfl ?_ | refine o_bin (op := .add) rfl rfl rfl ?_)
      rw [wrap_succ j (by omega)]
      refine u_round (show (mv l n k).length - (j + 1) < (mv l n k).length - j by omega) (sub_keep (.cons rfl (.cons rfl (.cons rfl (.cons rfl (.cons rfl (.cons rfl .nil))))))) ⟨j + 1, _, _, ⟨_, _, _⟩, rfl, hlt, hvis, hp1, hp2, Nat.le_trans (Nat.le_of_eq hp3) hm', ⟨by show 8 ≤ H'.next + 1; omega, (by (repeat (first | rw [look_putl, if_pos rfl] | rw [look_putl, if_neg (by decide)] | rw [look_dropl, if_neg (by decide)])); all_goals (first | rfl | assumption)), (by (repeat (first | rw [look_putl, if_pos rfl] | rw [look_putl, if_neg (by decide)] | rw [look_dropl, if_neg (by decide)])); all_goals (first | rfl | assumption)), (by (repeat (first | rw [look_putl, if_pos rfl] | rw [look_putl, if_neg (by decide)] | rw [look_dropl, if_neg (by decide)])); all_goals (first | rfl | assumption)), (by (repeat (first | rw [look_putl, if_pos rfl] | rw [look_putl, if_neg (by decide)] | rw [look_dropl, if_neg (by decide)])); all_goals (first | rfl | assumption)), (by (repeat (first | rw [look_putl, if_pos rfl] | rw [look_putl, if_neg (by decide)] | rw [look_dropl, if_neg (by decide)])); all_goals (first | rfl | assumption)), (by (repeat (first | rw [look_putl, if_pos rfl] | rw [look_putl, if_neg (by decide)] | rw [look_dropl, if_neg (by decide)])); all_goals (first | rfl | assumption)), H'.clk + 1, 0, (cs.drop off).take q'.length ++ [.int .i64 (nxt n k i : Nat)], ?_, ?_, ?_, ?_⟩, ⟨by have := hK'.next; show H.next ≤ H'.next + 1; omega, by have := hK'.clk; show H.clk ≤ H'.clk + 1 + 1; omega, fun j hj hj2 => ?_⟩, rfl⟩
      · show Am.look 3 (putl 3 _ _) = _
        rw [look_putl, if_pos rfl, List.length_append]
        rfl
      · show Am.look 4 (putl 3 _ (putl 4 _ _)) = _
        rw [look_putl, if_neg (by decide), look_putl, if_pos rfl]
      · rw [hcs, List.length_append, List.length_append, List.length_map]
        show 0 + (q'.length + 1) ≤ q'.length + 1
        omega
      · rw [hcs, List.drop_zero, List.map_append]
        exact List.take_of_length_le (by rw [List.length_append, List.length_map, List.length_append]; exact Nat.le_refl _)
      · dsimp only
        rw [look_putl, if_neg (by omega), look_putl, if_neg (by omega), look_putl, if_neg (by omega), look_new (by have := hK'.next; omega)]
        exact hK'.look j hj hj2
    · have hneg : ¬ out'.getD (nxt n k i) 0 < 0 := of_decide_eq_false h
      have hpe : push n k (out', q') i = (out', q') := if_neg hneg
      rw [hpe] at hp hvis
      repeat (first | refine z_region rfl ?_ | refine o_nil ?_ | refine u_seq ?_ | refine u_blk ?_ | refine z_skip ?_ | refine z_cf rfl ?_ | refine o_mov rfl ?_ | refine o_bin (op := .add) rfl rfl rfl ?_)
      rw [wrap_succ j (by omega)]
      refine u_round (show (mv l n k).length - (j + 1) < (mv l n k).length - j by omega) (sub_keep (.cons rfl (.cons rfl (.cons rfl (.cons rfl (.cons rfl (.cons rfl .nil))))))) ⟨j + 1, _, _, ⟨_, _, _⟩, rfl, hlt, hvis, hB', hk0', hm', ⟨by show 8 ≤ H'.next + 1; omega, z7, z6, z0, z1, z2, z5, sq, off, cs, z3, z4, hlen, hcs⟩, ⟨by have := hK'.next; show H.next ≤ H'.next + 1; omega, by have := hK'.clk; show H.clk ≤ H'.clk + 1; omega, fun j hj hj2 => ?_⟩, rfl⟩
      show Am.look j (_ :: H'.heap) = _
      rw [look_new (by have := hK'.next; omega)]
      exact hK'.look j hj hj2
  · have hi2 : j = (mv l n k).length := by
      have := of_decide_eq_false h3
      omega
    subst hi2
    rw [List.drop_length, List.foldl_nil] at hvis
    rw [hvis]
    repeat (first | refine z_seq ?_ | refine o_nil ?_ | refine u_seq ?_ | refine z_cf rfl ?_ | refine z_exit ?_ | refine u_exit_seq ?_)
    refine u_out ?_
    repeat (first | refine u_blk ?_ | refine u_exit ?_)
    refine u_end ⟨62, tmOf (l96 l n), [29], ca96_0, cb96_0, (6, 1), i7, none, rfl, rfl, ⟨hK'.next, hK'.clk, fun j hj hj2 => ?_⟩, nx', ?_, (by (repeat (first | rw [look_putl, if_pos rfl] | rw [look_putl, if_neg (by decide)] | rw [look_dropl, if_neg (by decide)])); all_goals (first | rfl | assumption)), (by (repeat (first | rw [look_putl, if_pos rfl] | rw [look_putl, if_neg (by decide)] | rw [look_dropl, if_neg (by decide)])); all_goals (first | rfl | assumption)), (by (repeat (first | rw [look_putl, if_pos rfl] | rw [look_putl, if_neg (by decide)] | rw [look_dropl, if_neg (by decide)])); all_goals (first | rfl | assumption)), (by (repeat (first | rw [look_putl, if_pos rfl] | rw [look_putl, if_neg (by decide)] | rw [look_dropl, if_neg (by decide)])); all_goals (first | rfl | assumption)), (by (repeat (first | rw [look_putl, if_pos rfl] | rw [look_putl, if_neg (by decide)] | rw [look_dropl, if_neg (by decide)])); all_goals (first | rfl | assumption)), sq, off, cs, (by (repeat (first | rw [look_putl, if_pos rfl] | rw [look_putl, if_neg (by decide)] | rw [look_dropl, if_neg (by decide)])); all_goals (first | rfl | assumption)), (by (repeat (first | rw [look_putl, if_pos rfl] | rw [look_putl, if_neg (by decide)] | rw [look_dropl, if_neg (by decide)])); all_goals (first | rfl | assumption)), hlen, hcs⟩
    · show Am.look j (putl 7 _ H'.heap) = _
      rw [look_putl, if_neg (by omega)]
      exact hK'.look j hj hj2
    · show Am.look 7 (putl 7 _ _) = _
      rw [look_putl, if_pos rfl]
      rfl

end Go.Proofs.Ytoiblgbaeglgoaa
