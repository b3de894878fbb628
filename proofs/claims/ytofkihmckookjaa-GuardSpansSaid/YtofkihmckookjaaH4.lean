/-
  THE TWO-HAND SIGNAL: what TwoHand computes.
-/
import Derived.Test.YtofkihmckookjaaH3
import Derived.Test.YtofkihmckookjaaA8
namespace Go.Proofs.Ytofkihmckookjaa
open Go Go.Am

structure Hd where
  out : List (Int × Int)
  d0 : Bool
  d1 : Bool
  s0 : Int
  s1 : Int
  rdy : Bool

def mx (a b : Int) : Int := if b > a then b else a
def mn (a b : Int) : Int := if b < a then b else a

def closeL (out : List (Int × Int)) (at_ : Int) : List (Int × Int) :=
  match out.getLast? with
  | some (p, q) => if q = -1099511627776 then out.dropLast ++ [(p, at_)] else out
  | none => out

def openL (out : List (Int × Int)) : Bool :=
  match out.getLast? with
  | some (_, q) => decide (q = -1099511627776)
  | none => false

/-- Both are down. -/
def both (w : Int) (out : List (Int × Int)) (s0 s1 at_ : Int) (rdy : Bool) : Hd :=
  ⟨if rdy = true ∧ IntKind.wrap .i64 (mx s0 s1 - mn s0 s1) ≤ w then out ++ [(at_, -1099511627776)] else out, true, true, s0, s1, false⟩

def hstep (w : Int) (st : Hd) (e : Ev) : Hd :=
  match e.2.1, e.2.2, st.d0, st.d1 with
  | false, false, false, _ => st
  | false, true, true, _ => st
  | true, false, _, false => st
  | true, true, _, true => st
  | false, true, false, true => both w st.out e.1 st.s1 e.1 st.rdy
  | true, true, true, false => both w st.out st.s0 e.1 e.1 st.rdy
  | false, true, false, false => ⟨st.out, true, false, e.1, st.s1, st.rdy⟩
  | true, true, false, false => ⟨st.out, false, true, st.s0, e.1, st.rdy⟩
  | false, false, true, false => ⟨closeL st.out e.1, false, false, st.s0, st.s1, true⟩
  | true, false, false, true => ⟨closeL st.out e.1, false, false, st.s0, st.s1, true⟩
  | false, false, true, true => ⟨closeL st.out e.1, false, true, st.s0, st.s1, st.rdy⟩
  | true, false, true, true => ⟨closeL st.out e.1, true, false, st.s0, st.s1, st.rdy⟩

def scan (w : Int) (l : List Ev) : Hd := l.foldl (hstep w) ⟨[], false, false, 0, 0, true⟩

def twoRes (l : List Ev) (w : Int) : AV := if evErr l w = 0 then .tup [.vs ((scan w l).out.map rowP), .int .i64 0] else .tup [.vs [], .int .i64 (evErr l w)]

theorem scan_succ (w : Int) {l : List Ev} {i : Nat} (h : i < l.length) : scan w (l.take (i + 1)) = hstep w (scan w (l.take i)) l[i] := by
  unfold scan
  rw [List.take_succ_eq_append_getElem h, List.foldl_append]
  rfl

/-- The own memory: which buttons are down, since when, and the spans. -/
inductive Mem (n : Nat) (tm : AV → Bool → List (Nat × AV)) (sg : Hd) : AS → Prop
  | none (h : sg.out = []) : Mem n tm sg (st n (tm .nils sg.rdy) [(0, 0, .cells [.bool sg.d0, .bool sg.d1]), (1, 0, .cells [.int .i64 sg.s0, .int .i64 sg.s1])] 2 1)
  | some (init : List (Int × Int)) (p q : Int) (h : sg.out = init ++ [(p, q)]) : Mem n tm sg (st n (tm (.ms 2 0 2 0 (init.length + 1) none) sg.rdy) [(0, 0, .cells [.bool sg.d0, .bool sg.d1]), (1, 0, .cells [.int .i64 sg.s0, .int .i64 sg.s1]), (2, 0, .cells ((init.map rowP).flatten ++ [.int .i64 p, .int .i64 q]))] 3 1)

def tm17 (l : List Ev) (w : Int) (i : Nat) (out : AV) (rdy : Bool) : List (Nat × AV) := [(1, .int .i64 w), (8, out), (9, .mptr 0 0 0), (10, .mptr 1 0 0), (11, .bool rdy), (56, .vs (l.map rowE)), (57, .int .i64 (l.map rowE).length), (58, .int .i64 (i : Nat))]

def body17a : IC := .seq (.region [⟨(some 22), .bin .lss (.t 21) (.t 20), none⟩] none)
  (.seq (.cond (.t 22) (.skip)
  (.exit 0))
  (.seq (.block 1 (.seq (.region [⟨(some 23), .mov (.t 21), none⟩,
    ⟨(some 24), .idxs 3 (.t 19) (.t 21), none⟩,
    ⟨(some 25), .load (some 3) (.t 24), none⟩,
    ⟨(some 7), .alloc [.int .i64 0, .bool false, .bool false], none⟩,
    ⟨(some 6), .mov (.t 23), none⟩,
    ⟨none, .store 3 (.t 7) (.t 25), none⟩] none)
  (.block 2 (.seq (.region [⟨(some 27), .faddr 0 (.t 7), none⟩,
    ⟨(some 28), .load none (.t 27), none⟩,
    ⟨(some 29), .bin .lss (.t 28) (.c (.int .i64 0)), none⟩,
    ⟨(some 30), .mov (.t 29), none⟩,
    ⟨(some 31), .faddr 0 (.t 7), some (30, false)⟩,
    ⟨(some 32), .load none (.t 31), some (30, false)⟩,
    ⟨(some 33), .bin .gtr (.t 32) (.c (.int .i64 1000000)), some (30, false)⟩,
    ⟨(some 34), .pick (.t 30) (.c (.bool true)) (.t 33), none⟩,
    ⟨(some 26), .mov (.t 34), none⟩] none)
  (.cond (.t 26) (.seq (.region [⟨(some 4), .mov (.c (.nils)), none⟩,
    ⟨(some 5), .mov (.c (.int .i64 2)), none⟩] none)
  (.ret))
  (.seq (.region [⟨(some 36), .mov (.t 6), none⟩,
    ⟨(some 37), .bin .gtr (.t 36) (.c (.int .i64 0)), none⟩,
    ⟨(some 38), .mov (.t 37), none⟩,
    ⟨(some 39), .faddr 0 (.t 7), some (38, true)⟩,
    ⟨(some 40), .load none (.t 39), some (38, true)⟩,
    ⟨(some 41), .mov (.t 0), some (38, true)⟩,
    ⟨(some 42), .mov (.t 6), some (38, true)⟩,
    ⟨(some 43), .bin .sub (.t 42) (.c (.int .i64 1)), some (38, true)⟩,
    ⟨(some 44), .idxs 3 (.t 41) (.t 43), some (38, true)⟩,
    ⟨(some 45), .faddr 0 (.t 44), some (38, true)⟩,
    ⟨(some 46), .load none (.t 45), some (38, true)⟩,
    ⟨(some 47), .bin .lss (.t 40) (.t 46), some (38, true)⟩,
    ⟨(some 48), .pick (.t 38) (.t 47) (.c (.bool false)), none⟩,
    ⟨(some 35), .mov (.t 48), none⟩] (some [[], [0], [1], [2], [3, 2], [2], [2], [6, 2], [5, 7, 2], [8, 2], [9, 2], [4, 10, 2], [2, 11], [12, 2]]))
  (.cond (.t 35) (.seq (.region [⟨(some 4), .mov (.c (.nils)), none⟩,
    ⟨(some 5), .mov (.c (.int .i64 9)), none⟩] none)
  (.ret))
  (.skip))))))))
  (.region [⟨(some 49), .bin .add (.t 21) (.c (.int .i64 1)), none⟩,
    ⟨(some 21), .mov (.t 49), none⟩] none)))

def body17b : IC := .seq (.region [⟨(some 59), .bin .lss (.t 58) (.t 57), none⟩] none)
  (.seq (.cond (.t 59) (.skip)
  (.exit 3))
  (.seq (.block 4 (.seq (.region [⟨(some 60), .idxs 3 (.t 56) (.t 58), none⟩,
    ⟨(some 61), .load (some 3) (.t 60), none⟩,
    ⟨(some 13), .alloc [.int .i64 0, .bool false, .bool false], none⟩,
    ⟨none, .store 3 (.t 13) (.t 61), none⟩] none)
  (.seq (.region [⟨(some 14), .mov (.c (.int .i64 0)), none⟩] none)
  (.seq (.seq (.region [⟨(some 62), .faddr 1 (.t 13), none⟩,
    ⟨(some 63), .load none (.t 62), none⟩] none)
  (.cond (.t 63) (.region [⟨(some 14), .mov (.c (.int .i64 1)), none⟩] none)
  (.skip)))
  (.seq (.seq (.region [⟨(some 64), .mov (.t 14), none⟩,
    ⟨(some 65), .idxarr 2 1 (.t 9) (.t 64), none⟩,
    ⟨(some 66), .load none (.t 65), none⟩,
    ⟨(some 67), .faddr 2 (.t 13), none⟩,
    ⟨(some 68), .load none (.t 67), none⟩,
    ⟨(some 69), .eqb false (.t 66) (.t 68), none⟩] (some [[], [0], [1], [], [3], [2, 4]]))
  (.cond (.t 69) (.exit 4)
  (.skip)))
  (.seq (.region [⟨(some 70), .mov (.t 14), none⟩,
    ⟨(some 71), .faddr 2 (.t 13), none⟩,
    ⟨(some 72), .load none (.t 71), none⟩,
    ⟨(some 73), .idxarr 2 1 (.t 9) (.t 70), none⟩,
    ⟨none, .store 1 (.t 73) (.t 72), none⟩] none)
  (.seq (.seq (.region [⟨(some 74), .faddr 2 (.t 13), none⟩,
    ⟨(some 75), .load none (.t 74), none⟩] none)
  (.cond (.t 75) (.region [⟨(some 76), .mov (.t 14), none⟩,
    ⟨(some 77), .faddr 0 (.t 13), none⟩,
    ⟨(some 78), .load none (.t 77), none⟩,
    ⟨(some 79), .idxarr 2 1 (.t 10) (.t 76), none⟩,
    ⟨none, .store 1 (.t 79) (.t 78), none⟩] none)
  (.skip)))
  (.seq (.block 5 (.seq (.region [⟨(some 81), .idxarr 2 1 (.t 9) (.c (.int .i64 0)), none⟩,
    ⟨(some 82), .load none (.t 81), none⟩,
    ⟨(some 83), .mov (.t 82), none⟩,
    ⟨(some 84), .idxarr 2 1 (.t 9) (.c (.int .i64 1)), some (83, true)⟩,
    ⟨(some 85), .load none (.t 84), some (83, true)⟩,
    ⟨(some 86), .pick (.t 83) (.t 85) (.c (.bool false)), none⟩,
    ⟨(some 80), .mov (.t 86), none⟩] none)
  (.cond (.t 80) (.seq (.seq (.region [⟨(some 87), .mov (.t 11), none⟩,
    ⟨(some 88), .mov (.t 87), none⟩,
    ⟨(some 89), .idxarr 2 1 (.t 10) (.c (.int .i64 0)), some (88, true)⟩,
    ⟨(some 90), .load none (.t 89), some (88, true)⟩,
    ⟨(some 91), .idxarr 2 1 (.t 10) (.c (.int .i64 1)), some (88, true)⟩,
    ⟨(some 92), .load none (.t 91), some (88, true)⟩,
    ⟨(some 93), .minmax true [(.t 90), (.t 92)], some (88, true)⟩,
    ⟨(some 94), .idxarr 2 1 (.t 10) (.c (.int .i64 0)), some (88, true)⟩,
    ⟨(some 95), .load none (.t 94), some (88, true)⟩,
    ⟨(some 96), .idxarr 2 1 (.t 10) (.c (.int .i64 1)), some (88, true)⟩,
    ⟨(some 97), .load none (.t 96), some (88, true)⟩,
    ⟨(some 98), .minmax false [(.t 95), (.t 97)], some (88, true)⟩,
    ⟨(some 99), .bin .sub (.t 93) (.t 98), some (88, true)⟩,
    ⟨(some 100), .mov (.t 1), some (88, true)⟩,
    ⟨(some 101), .bin .leq (.t 99) (.t 100), some (88, true)⟩,
    ⟨(some 102), .pick (.t 88) (.t 101) (.c (.bool false)), none⟩] none)
  (.cond (.t 102) (.region [⟨(some 103), .mov (.t 8), none⟩,
    ⟨(some 104), .faddr 0 (.t 13), none⟩,
    ⟨(some 105), .load none (.t 104), none⟩,
    ⟨(some 106), .build [.int .i64 0, .int .i64 0] [(0, 1, (.t 105)), (1, 1, (.c (.int .i64 (-1099511627776))))], none⟩,
    ⟨(some 107), .bslice 2 1 [.int .i64 0, .int .i64 0] [(0, 2, (.t 106))], none⟩,
    ⟨(some 108), .append 2 16 [.int .i64 0, .int .i64 0] (.t 103) (.t 107), none⟩,
    ⟨(some 8), .mov (.t 108), none⟩] none)
  (.skip)))
  (.region [⟨(some 11), .mov (.c (.bool false)), none⟩] none))
  (.seq (.region [⟨(some 110), .idxarr 2 1 (.t 9) (.c (.int .i64 0)), none⟩,
    ⟨(some 111), .load none (.t 110), none⟩,
    ⟨(some 112), .un .not (.t 111), none⟩,
    ⟨(some 113), .mov (.t 112), none⟩,
    ⟨(some 114), .idxarr 2 1 (.t 9) (.c (.int .i64 1)), some (113, true)⟩,
    ⟨(some 115), .load none (.t 114), some (113, true)⟩,
    ⟨(some 116), .un .not (.t 115), some (113, true)⟩,
    ⟨(some 117), .pick (.t 113) (.t 116) (.c (.bool false)), none⟩,
    ⟨(some 109), .mov (.t 117), none⟩] none)
  (.cond (.t 109) (.region [⟨(some 11), .mov (.c (.bool true)), none⟩] none)
  (.skip))))))
  (.seq (.region [⟨(some 118), .mov (.t 8), none⟩,
    ⟨(some 119), .len false (.t 118), none⟩,
    ⟨(some 15), .mov (.t 119), none⟩] none)
  (.seq (.region [⟨(some 120), .mov (.t 15), none⟩,
    ⟨(some 121), .bin .gtr (.t 120) (.c (.int .i64 0)), none⟩,
    ⟨(some 122), .mov (.t 121), none⟩,
    ⟨(some 123), .faddr 2 (.t 13), some (122, true)⟩,
    ⟨(some 124), .load none (.t 123), some (122, true)⟩,
    ⟨(some 125), .un .not (.t 124), some (122, true)⟩,
    ⟨(some 126), .pick (.t 122) (.t 125) (.c (.bool false)), none⟩,
    ⟨(some 127), .mov (.t 126), none⟩,
    ⟨(some 128), .mov (.t 8), some (127, true)⟩,
    ⟨(some 129), .mov (.t 15), some (127, true)⟩,
    ⟨(some 130), .bin .sub (.t 129) (.c (.int .i64 1)), some (127, true)⟩,
    ⟨(some 131), .idxs 2 (.t 128) (.t 130), some (127, true)⟩,
    ⟨(some 132), .idxarr 2 1 (.t 131) (.c (.int .i64 1)), some (127, true)⟩,
    ⟨(some 133), .load none (.t 132), some (127, true)⟩,
    ⟨(some 134), .bin .eql (.t 133) (.c (.int .i64 (-1099511627776))), some (127, true)⟩,
    ⟨(some 135), .pick (.t 127) (.t 134) (.c (.bool false)), none⟩] none)
  (.cond (.t 135) (.region [⟨(some 136), .mov (.t 8), none⟩,
    ⟨(some 137), .mov (.t 15), none⟩,
    ⟨(some 138), .bin .sub (.t 137) (.c (.int .i64 1)), none⟩,
    ⟨(some 139), .faddr 0 (.t 13), none⟩,
    ⟨(some 140), .load none (.t 139), none⟩,
    ⟨(some 141), .idxs 2 (.t 136) (.t 138), none⟩,
    ⟨(some 142), .idxarr 2 1 (.t 141) (.c (.int .i64 1)), none⟩,
    ⟨none, .store 1 (.t 142) (.t 140), none⟩] (some [[], [], [1], [], [3], [0, 2], [5, 0, 1, 2, 3, 4], [6, 4, 0, 1, 2, 3, 4]]))
  (.skip))))))))))))
  (.region [⟨(some 143), .bin .add (.t 58) (.c (.int .i64 1)), none⟩,
    ⟨(some 58), .mov (.t 143), none⟩] none)))

-- pneumatic/guard.TwoHand
def ic17 : IC := .seq (.region [⟨(some 4), .mov (.c (.nils)), none⟩,
    ⟨(some 5), .mov (.c (.int .i64 0)), none⟩] none)
  (.seq (.seq (.region [⟨(some 16), .mov (.t 0), none⟩,
    ⟨(some 17), .len false (.t 16), none⟩,
    ⟨(some 18), .bin .gtr (.t 17) (.c (.int .i64 256)), none⟩] none)
  (.cond (.t 18) (.seq (.region [⟨(some 4), .mov (.c (.nils)), none⟩,
    ⟨(some 5), .mov (.c (.int .i64 5)), none⟩] none)
  (.ret))
  (.skip)))
  (.seq (.seq (.region [⟨(some 19), .mov (.t 0), none⟩,
    ⟨(some 20), .len false (.t 19), none⟩,
    ⟨(some 21), .mov (.c (.int .i64 0)), none⟩] none)
  (.block 0 (.loop body17a)))
  (.seq (.seq (.region [⟨(some 50), .mov (.t 1), none⟩,
    ⟨(some 51), .bin .lss (.t 50) (.c (.int .i64 0)), none⟩,
    ⟨(some 52), .mov (.t 51), none⟩,
    ⟨(some 53), .mov (.t 1), some (52, false)⟩,
    ⟨(some 54), .bin .gtr (.t 53) (.c (.int .i64 1000000)), some (52, false)⟩,
    ⟨(some 55), .pick (.t 52) (.c (.bool true)) (.t 54), none⟩] none)
  (.cond (.t 55) (.seq (.region [⟨(some 4), .mov (.c (.nils)), none⟩,
    ⟨(some 5), .mov (.c (.int .i64 2)), none⟩] none)
  (.ret))
  (.skip)))
  (.seq (.region [⟨(some 8), .mov (.c (.nils)), none⟩] none)
  (.seq (.region [⟨(some 9), .alloc [.bool false, .bool false], none⟩] none)
  (.seq (.region [⟨(some 10), .alloc [.int .i64 0, .int .i64 0], none⟩] none)
  (.seq (.region [⟨(some 11), .mov (.c (.bool true)), none⟩] none)
  (.seq (.seq (.region [⟨(some 56), .mov (.t 0), none⟩,
    ⟨(some 57), .len false (.t 56), none⟩,
    ⟨(some 58), .mov (.c (.int .i64 0)), none⟩] none)
  (.block 3 (.loop body17b)))
  (.seq (.region [⟨(some 144), .mov (.t 8), none⟩,
    ⟨(some 4), .mov (.t 144), none⟩,
    ⟨(some 5), .mov (.c (.int .i64 0)), none⟩] none)
  (.ret))))))))))
theorem fn17 : env0.fn 17 = some ⟨145, ic17, [.t 4, .t 5]⟩ := by kernel_rfl


set_option maxHeartbeats 4000000 in
theorem round17A (l : List Ev) (w : Int) (i : Nat) (hi : i < l.length) (hl : l.length ≤ 600) (d0 d1 : Bool) (s0 s1 : Int) (rdy : Bool) (w0 : World) (N0 : Nat) :
    Z Try.prog w0 N0 body17b (st 145 (tm17 l w i .nils rdy) [(0, 0, .cells [.bool d0, .bool d1]), (1, 0, .cells [.int .i64 s0, .int .i64 s1])] 2 1) []
      (fun e S => e = .normal ∧ ∃ S', Sub0 w0 N0 S S' ∧ Mem 145 (tm17 l w (i + 1)) (hstep w ⟨[], d0, d1, s0, s1, rdy⟩ l[i]) S') := by
  have ge : (l.map rowE)[((i : Nat) : Int).toNat]? = some (rowE l[i]) := by simp [hi]
  generalize l[i] = e at ge
  obtain ⟨at_, r, d⟩ := e
  have hc : decide (((i : Nat) : Int) < ((l.map rowE).length : Int)) = true := by simp [hi]
  unfold body17b
  repeat (first
    | refine z_seq ?_
    | refine z_region rfl ?_
    | refine o_nil ?_
    | refine u_seq ?_
    | refine u_blk ?_
    | refine z_block ?_
    | refine z_skip ?_
    | refine z_ct rfl ?_
    | refine z_cf rfl ?_
    | refine z_exit ?_
    | refine z_ret ?_
    | refine u_exit ?_
    | refine u_exit_seq ?_
    | refine u_exit_other rfl ?_
    | refine u_ret_seq ?_
    | refine u_ret_blk ?_
    | refine o_gy rfl ?_
    | refine o_gn rfl rfl ?_
    | refine o_gt rfl ?_
    | refine o_mov rfl ?_
    | refine o_load rfl rfl ?_
    | refine o_loadn rfl rfl rfl rfl ?_
    | refine o_store rfl rfl rfl rfl rfl rfl rfl ?_
    | refine o_faddrm rfl ?_
    | refine o_faddrv rfl rfl rfl ?_
    | refine o_idxarrm rfl rfl rfl ?_
    | refine o_alloc ?_
    | refine o_pickt rfl rfl ?_
    | refine o_pickf rfl rfl ?_
    | refine o_un rfl rfl ?_
    | refine o_len rfl rfl ?_
    | refine o_build rfl rfl ?_
    | refine o_bslice rfl rfl ?_
    | refine o_box rfl rfl ?_
    | refine o_minmax2 rfl rfl rfl ?_
    | refine o_field rfl rfl ?_
    | refine o_append rfl rfl rfl rfl ?_
    | refine o_extract rfl rfl ?_
    | refine o_lenc ?_
    | refine z_drawn0 env0_ok rfl rfl rfl ?_
    | refine o_bin (op := .add) rfl rfl rfl ?_
    | refine o_bin (op := .sub) rfl rfl rfl ?_
    | refine o_eqbt rfl rfl rfl ?_
    | refine o_eqbf rfl rfl rfl ?_
    | refine o_cmpt rfl rfl rfl ?_
    | refine o_cmpf rfl rfl rfl ?_)
  refine o_cmp rfl rfl rfl (fun _ => ?_) fun h => absurd hc (by rw [h]; simp)
  repeat (first
    | refine z_seq ?_
    | refine z_region rfl ?_
    | refine o_nil ?_
    | refine u_seq ?_
    | refine u_blk ?_
    | refine z_block ?_
    | refine z_skip ?_
    | refine z_ct rfl ?_
    | refine z_cf rfl ?_
    | refine z_exit ?_
    | refine z_ret ?_
    | refine u_exit ?_
    | refine u_exit_seq ?_
    | refine u_exit_other rfl ?_
    | refine u_ret_seq ?_
    | refine u_ret_blk ?_
    | refine o_gy rfl ?_
    | refine o_gn rfl rfl ?_
    | refine o_gt rfl ?_
    | refine o_mov rfl ?_
    | refine o_load rfl rfl ?_
    | refine o_loadn rfl rfl rfl rfl ?_
    | refine o_store rfl rfl rfl rfl rfl rfl rfl ?_
    | refine o_faddrm rfl ?_
    | refine o_faddrv rfl rfl rfl ?_
    | refine o_idxarrm rfl rfl rfl ?_
    | refine o_alloc ?_
    | refine o_pickt rfl rfl ?_
    | refine o_pickf rfl rfl ?_
    | refine o_un rfl rfl ?_
    | refine o_len rfl rfl ?_
    | refine o_build rfl rfl ?_
    | refine o_bslice rfl rfl ?_
    | refine o_box rfl rfl ?_
    | refine o_minmax2 rfl rfl rfl ?_
    | refine o_field rfl rfl ?_
    | refine o_append rfl rfl rfl rfl ?_
    | refine o_extract rfl rfl ?_
    | refine o_lenc ?_
    | refine z_drawn0 env0_ok rfl rfl rfl ?_
    | refine o_bin (op := .add) rfl rfl rfl ?_
    | refine o_bin (op := .sub) rfl rfl rfl ?_
    | refine o_eqbt rfl rfl rfl ?_
    | refine o_eqbf rfl rfl rfl ?_
    | refine o_cmpt rfl rfl rfl ?_
    | refine o_cmpf rfl rfl rfl ?_)
  refine o_idxs rfl rfl (Int.natCast_nonneg i) ge rfl ?_
  cases r <;> cases d <;> cases d0 <;> cases d1
  all_goals
    repeat (first
      | refine z_seq ?_
      | refine z_region rfl ?_
      | refine o_nil ?_
      | refine u_seq ?_
      | refine u_blk ?_
      | refine z_block ?_
      | refine z_skip ?_
      | refine z_ct rfl ?_
      | refine z_cf rfl ?_
      | refine z_exit ?_
      | refine z_ret ?_
      | refine u_exit ?_
      | refine u_exit_seq ?_
      | refine u_exit_other rfl ?_
      | refine u_ret_seq ?_
      | refine u_ret_blk ?_
      | refine o_gy rfl ?_
      | refine o_gn rfl rfl ?_
      | refine o_gt rfl ?_
      | refine o_mov rfl ?_
      | refine o_load rfl rfl ?_
      | refine o_loadn rfl rfl rfl rfl ?_
      | refine o_store rfl rfl rfl rfl rfl rfl rfl ?_
      | refine o_faddrm rfl ?_
      | refine o_faddrv rfl rfl rfl ?_
      | refine o_idxarrm rfl rfl rfl ?_
      | refine o_alloc ?_
      | refine o_pickt rfl rfl ?_
      | refine o_pickf rfl rfl ?_
      | refine o_un rfl rfl ?_
      | refine o_len rfl rfl ?_
      | refine o_build rfl rfl ?_
      | refine o_bslice rfl rfl ?_
      | refine o_box rfl rfl ?_
      | refine o_minmax2 rfl rfl rfl ?_
      | refine o_field rfl rfl ?_
      | refine o_append rfl rfl rfl rfl ?_
      | refine o_extract rfl rfl ?_
      | refine o_lenc ?_
      | refine z_drawn0 env0_ok rfl rfl rfl ?_
      | refine o_bin (op := .add) rfl rfl rfl ?_
      | refine o_bin (op := .sub) rfl rfl rfl ?_
      | refine o_eqbt rfl rfl rfl ?_
      | refine o_eqbf rfl rfl rfl ?_
      | refine o_cmpt rfl rfl rfl ?_
      | refine o_cmpf rfl rfl rfl ?_)
    try exact u_end ⟨rfl, _, sub_ren [(0, 0, [.bool _, .bool _]), (1, 0, [.int .i64 _, .int .i64 _])] rfl rfl (by simp) (.cons rfl rfl (ren_keep rfl) (.cons rfl rfl (ren_keep rfl) .nil)) (.cons rfl (.same rfl) (.cons rfl (.same rfl) (.cons rfl (.mptr rfl) (.cons rfl (.mptr rfl) (.cons rfl (.same rfl) (.cons rfl (.same rfl) (.cons rfl (.same rfl) (.cons rfl (ren_eq (congrArg (AV.int .i64) (wrap_succ i (by omega))) rfl) .nil)))))))), .none rfl⟩
  all_goals
    cases rdy
    · repeat (first
        | refine z_seq ?_
        | refine z_region rfl ?_
        | refine o_nil ?_
        | refine u_seq ?_
        | refine u_blk ?_
        | refine z_block ?_
        | refine z_skip ?_
        | refine z_ct rfl ?_
        | refine z_cf rfl ?_
        | refine z_exit ?_
        | refine z_ret ?_
        | refine u_exit ?_
        | refine u_exit_seq ?_
        | refine u_exit_other rfl ?_
        | refine u_ret_seq ?_
        | refine u_ret_blk ?_
        | refine o_gy rfl ?_
        | refine o_gn rfl rfl ?_
        | refine o_gt rfl ?_
        | refine o_mov rfl ?_
        | refine o_load rfl rfl ?_
        | refine o_loadn rfl rfl rfl rfl ?_
        | refine o_store rfl rfl rfl rfl rfl rfl rfl ?_
        | refine o_faddrm rfl ?_
        | refine o_faddrv rfl rfl rfl ?_
        | refine o_idxarrm rfl rfl rfl ?_
        | refine o_alloc ?_
        | refine o_pickt rfl rfl ?_
        | refine o_pickf rfl rfl ?_
        | refine o_un rfl rfl ?_
        | refine o_len rfl rfl ?_
        | refine o_build rfl rfl ?_
        | refine o_bslice rfl rfl ?_
        | refine o_box rfl rfl ?_
        | refine o_minmax2 rfl rfl rfl ?_
        | refine o_field rfl rfl ?_
        | refine o_append rfl rfl rfl rfl ?_
        | refine o_extract rfl rfl ?_
        | refine o_lenc ?_
        | refine z_drawn0 env0_ok rfl rfl rfl ?_
        | refine o_bin (op := .add) rfl rfl rfl ?_
        | refine o_bin (op := .sub) rfl rfl rfl ?_
        | refine o_eqbt rfl rfl rfl ?_
        | refine o_eqbf rfl rfl rfl ?_
        | refine o_cmpt rfl rfl rfl ?_
        | refine o_cmpf rfl rfl rfl ?_)
      exact u_end ⟨rfl, _, sub_ren [(0, 0, [.bool _, .bool _]), (1, 0, [.int .i64 _, .int .i64 _])] rfl rfl (by simp) (.cons rfl rfl (ren_keep rfl) (.cons rfl rfl (ren_keep rfl) .nil)) (.cons rfl (.same rfl) (.cons rfl (.same rfl) (.cons rfl (.mptr rfl) (.cons rfl (.mptr rfl) (.cons rfl (.same rfl) (.cons rfl (.same rfl) (.cons rfl (.same rfl) (.cons rfl (ren_eq (congrArg (AV.int .i64) (wrap_succ i (by omega))) rfl) .nil)))))))), .none rfl⟩
    · repeat (first
        | refine z_seq ?_
        | refine z_region rfl ?_
        | refine o_nil ?_
        | refine u_seq ?_
        | refine u_blk ?_
        | refine z_block ?_
        | refine z_skip ?_
        | refine z_ct rfl ?_
        | refine z_cf rfl ?_
        | refine z_exit ?_
        | refine z_ret ?_
        | refine u_exit ?_
        | refine u_exit_seq ?_
        | refine u_exit_other rfl ?_
        | refine u_ret_seq ?_
        | refine u_ret_blk ?_
        | refine o_gy rfl ?_
        | refine o_gn rfl rfl ?_
        | refine o_gt rfl ?_
        | refine o_mov rfl ?_
        | refine o_load rfl rfl ?_
        | refine o_loadn rfl rfl rfl rfl ?_
        | refine o_store rfl rfl rfl rfl rfl rfl rfl ?_
        | refine o_faddrm rfl ?_
        | refine o_faddrv rfl rfl rfl ?_
        | refine o_idxarrm rfl rfl rfl ?_
        | refine o_alloc ?_
        | refine o_pickt rfl rfl ?_
        | refine o_pickf rfl rfl ?_
        | refine o_un rfl rfl ?_
        | refine o_len rfl rfl ?_
        | refine o_build rfl rfl ?_
        | refine o_bslice rfl rfl ?_
        | refine o_box rfl rfl ?_
        | refine o_minmax2 rfl rfl rfl ?_
        | refine o_field rfl rfl ?_
        | refine o_append rfl rfl rfl rfl ?_
        | refine o_extract rfl rfl ?_
        | refine o_lenc ?_
        | refine z_drawn0 env0_ok rfl rfl rfl ?_
        | refine o_bin (op := .add) rfl rfl rfl ?_
        | refine o_bin (op := .sub) rfl rfl rfl ?_
        | refine o_eqbt rfl rfl rfl ?_
        | refine o_eqbf rfl rfl rfl ?_
        | refine o_cmpt rfl rfl rfl ?_
        | refine o_cmpf rfl rfl rfl ?_)
      refine o_cmp rfl rfl rfl (fun h => ?_) fun h => ?_
      · repeat (first
          | refine z_seq ?_
          | refine z_region rfl ?_
          | refine o_nil ?_
          | refine u_seq ?_
          | refine u_blk ?_
          | refine z_block ?_
          | refine z_skip ?_
          | refine z_ct rfl ?_
          | refine z_cf rfl ?_
          | refine z_exit ?_
          | refine z_ret ?_
          | refine u_exit ?_
          | refine u_exit_seq ?_
          | refine u_exit_other rfl ?_
          | refine u_ret_seq ?_
          | refine u_ret_blk ?_
          | refine o_gy rfl ?_
          | refine o_gn rfl rfl ?_
          | refine o_gt rfl ?_
          | refine o_mov rfl ?_
          | refine o_load rfl rfl ?_
          | refine o_loadn rfl rfl rfl rfl ?_
          | refine o_store rfl rfl rfl rfl rfl rfl rfl ?_
          | refine o_faddrm rfl ?_
          | refine o_faddrv rfl rfl rfl ?_
          | refine o_idxarrm rfl rfl rfl ?_
          | refine o_alloc ?_
          | refine o_pickt rfl rfl ?_
          | refine o_pickf rfl rfl ?_
          | refine o_un rfl rfl ?_
          | refine o_len rfl rfl ?_
          | refine o_build rfl rfl ?_
          | refine o_bslice rfl rfl ?_
          | refine o_box rfl rfl ?_
          | refine o_minmax2 rfl rfl rfl ?_
          | refine o_field rfl rfl ?_
          | refine o_append rfl rfl rfl rfl ?_
          | refine o_extract rfl rfl ?_
          | refine o_lenc ?_
          | refine z_drawn0 env0_ok rfl rfl rfl ?_
          | refine o_bin (op := .add) rfl rfl rfl ?_
          | refine o_bin (op := .sub) rfl rfl rfl ?_
          | refine o_eqbt rfl rfl rfl ?_
          | refine o_eqbf rfl rfl rfl ?_
          | refine o_cmpt rfl rfl rfl ?_
          | refine o_cmpf rfl rfl rfl ?_)
        have hle := of_decide_eq_true h
        exact u_end ⟨rfl, _, sub_ren [(0, 0, [.bool _, .bool _]), (1, 0, [.int .i64 _, .int .i64 _]), (4, 3, [.int .i64 _, .int .i64 _])] rfl rfl (by simp) (.cons rfl rfl (ren_keep rfl) (.cons rfl rfl (ren_keep rfl) (.cons rfl rfl (ren_keep rfl) .nil))) (.cons rfl (.same rfl) (.cons rfl (.ms rfl) (.cons rfl (.mptr rfl) (.cons rfl (.mptr rfl) (.cons rfl (.same rfl) (.cons rfl (.same rfl) (.cons rfl (.same rfl) (.cons rfl (ren_eq (congrArg (AV.int .i64) (wrap_succ i (by omega))) rfl) .nil)))))))), .some [] at_ (-1099511627776) (if_pos ⟨rfl, hle⟩)⟩
      · repeat (first
          | refine z_seq ?_
          | refine z_region rfl ?_
          | refine o_nil ?_
          | refine u_seq ?_
          | refine u_blk ?_
          | refine z_block ?_
          | refine z_skip ?_
          | refine z_ct rfl ?_
          | refine z_cf rfl ?_
          | refine z_exit ?_
          | refine z_ret ?_
          | refine u_exit ?_
          | refine u_exit_seq ?_
          | refine u_exit_other rfl ?_
          | refine u_ret_seq ?_
          | refine u_ret_blk ?_
          | refine o_gy rfl ?_
          | refine o_gn rfl rfl ?_
          | refine o_gt rfl ?_
          | refine o_mov rfl ?_
          | refine o_load rfl rfl ?_
          | refine o_loadn rfl rfl rfl rfl ?_
          | refine o_store rfl rfl rfl rfl rfl rfl rfl ?_
          | refine o_faddrm rfl ?_
          | refine o_faddrv rfl rfl rfl ?_
          | refine o_idxarrm rfl rfl rfl ?_
          | refine o_alloc ?_
          | refine o_pickt rfl rfl ?_
          | refine o_pickf rfl rfl ?_
          | refine o_un rfl rfl ?_
          | refine o_len rfl rfl ?_
          | refine o_build rfl rfl ?_
          | refine o_bslice rfl rfl ?_
          | refine o_box rfl rfl ?_
          | refine o_minmax2 rfl rfl rfl ?_
          | refine o_field rfl rfl ?_
          | refine o_append rfl rfl rfl rfl ?_
          | refine o_extract rfl rfl ?_
          | refine o_lenc ?_
          | refine z_drawn0 env0_ok rfl rfl rfl ?_
          | refine o_bin (op := .add) rfl rfl rfl ?_
          | refine o_bin (op := .sub) rfl rfl rfl ?_
          | refine o_eqbt rfl rfl rfl ?_
          | refine o_eqbf rfl rfl rfl ?_
          | refine o_cmpt rfl rfl rfl ?_
          | refine o_cmpf rfl rfl rfl ?_)
        have hle := of_decide_eq_false h
        exact u_end ⟨rfl, _, sub_ren [(0, 0, [.bool _, .bool _]), (1, 0, [.int .i64 _, .int .i64 _])] rfl rfl (by simp) (.cons rfl rfl (ren_keep rfl) (.cons rfl rfl (ren_keep rfl) .nil)) (.cons rfl (.same rfl) (.cons rfl (.same rfl) (.cons rfl (.mptr rfl) (.cons rfl (.mptr rfl) (.cons rfl (.same rfl) (.cons rfl (.same rfl) (.cons rfl (.same rfl) (.cons rfl (ren_eq (congrArg (AV.int .i64) (wrap_succ i (by omega))) rfl) .nil)))))))), .none (if_neg fun x => hle x.2)⟩

theorem setAt_last (a b x : AV) : ∀ A : List AV, setAt (A.length + 1) (A ++ [a, b]) [x] = A ++ [a, x]
  | [] => rfl
  | c :: A => by
    have ih := setAt_last a b x A
    unfold setAt at ih ⊢
    simp only [List.length_cons, List.cons_append, List.take_succ_cons, List.length_nil, Nat.zero_add] at ih ⊢
    rw [show A.length + 1 + 1 + 1 = (A.length + 1 + 1) + 1 from rfl, List.drop_succ_cons, ih]

theorem hdropB (init : List (Int × Int)) (p q : Int) (hn : init.length ≤ 600) : ((init.map rowP).flatten ++ [AV.int .i64 p, .int .i64 q]).drop (0 + (IntKind.wrap .i64 (((init.length + 1 : Nat) : Int) - 1)).toNat * 2 + Int.toNat 1 * 1) = [.int .i64 q] := by
  have e : IntKind.wrap .i64 (((init.length + 1 : Nat) : Int) - 1) = (init.length : Int) := by rw [wrap_small _ (by omega) (by omega)]; omega
  have hl : (init.map rowP).flatten.length = init.length * 2 := by
    rw [flat_length (sz := 2) (fun x hx => by obtain ⟨_, _, rfl⟩ := List.mem_map.1 hx; rfl), List.length_map]
  rw [e, Int.toNat_natCast, show 0 + init.length * 2 + Int.toNat 1 * 1 = (init.map rowP).flatten.length + 1 from by rw [hl]; omega, ← List.drop_drop, List.drop_left]
  rfl

theorem hsetB (init : List (Int × Int)) (p q x : Int) (hn : init.length ≤ 600) : setAt (0 + (IntKind.wrap .i64 (((init.length + 1 : Nat) : Int) - 1)).toNat * 2 + Int.toNat 1 * 1) ((init.map rowP).flatten ++ [AV.int .i64 p, .int .i64 q]) [.int .i64 x] = (init.map rowP).flatten ++ [.int .i64 p, .int .i64 x] := by
  have e : IntKind.wrap .i64 (((init.length + 1 : Nat) : Int) - 1) = (init.length : Int) := by rw [wrap_small _ (by omega) (by omega)]; omega
  have hl : (init.map rowP).flatten.length = init.length * 2 := by
    rw [flat_length (sz := 2) (fun x hx => by obtain ⟨_, _, rfl⟩ := List.mem_map.1 hx; rfl), List.length_map]
  rw [e, Int.toNat_natCast, show 0 + init.length * 2 + Int.toNat 1 * 1 = (init.map rowP).flatten.length + 1 from by rw [hl]; omega]
  exact setAt_last _ _ _ _

theorem hleB (init : List (Int × Int)) (p q : Int) (hn : init.length ≤ 600) : Nat.ble (0 + (IntKind.wrap .i64 (((init.length + 1 : Nat) : Int) - 1)).toNat * 2 + Int.toNat 1 * 1 + 1) ((init.map rowP).flatten ++ [AV.int .i64 p, .int .i64 q]).length = true := by
  have e : IntKind.wrap .i64 (((init.length + 1 : Nat) : Int) - 1) = (init.length : Int) := by rw [wrap_small _ (by omega) (by omega)]; omega
  have hl : (init.map rowP).flatten.length = init.length * 2 := by
    rw [flat_length (sz := 2) (fun x hx => by obtain ⟨_, _, rfl⟩ := List.mem_map.1 hx; rfl), List.length_map]
  refine Nat.ble_eq_true_of_le ?_
  rw [e, Int.toNat_natCast, List.length_append, hl, show Int.toNat 1 = 1 from rfl]
  simp

theorem closeL_eq (init : List (Int × Int)) (p q x : Int) : closeL (init ++ [(p, q)]) x = if q = -1099511627776 then init ++ [(p, x)] else init ++ [(p, q)] := by
  unfold closeL
  rw [List.getLast?_concat, List.dropLast_concat]

theorem hM2 (init : List (Int × Int)) (p q : Int) : hasM.hasML ((init.map rowP).flatten ++ [AV.int .i64 p, .int .i64 q]) = false :=
  hasML_append (hasML_flat fun x hx => by obtain ⟨_, _, rfl⟩ := List.mem_map.1 hx; rfl) rfl

set_option maxHeartbeats 8000000 in
theorem round17B (l : List Ev) (w : Int) (i : Nat) (hi : i < l.length) (hl : l.length ≤ 600) (d0 d1 : Bool) (s0 s1 : Int) (rdy : Bool) (init : List (Int × Int)) (p q : Int) (hn : init.length ≤ 600) (w0 : World) (N0 : Nat) :
    Z Try.prog w0 N0 body17b (st 145 (tm17 l w i (.ms 2 0 2 0 (init.length + 1) none) rdy) [(0, 0, .cells [.bool d0, .bool d1]), (1, 0, .cells [.int .i64 s0, .int .i64 s1]), (2, 0, .cells ((init.map rowP).flatten ++ [.int .i64 p, .int .i64 q]))] 3 1) []
      (fun e S => e = .normal ∧ ∃ S', Sub0 w0 N0 S S' ∧ Mem 145 (tm17 l w (i + 1)) (hstep w ⟨init ++ [(p, q)], d0, d1, s0, s1, rdy⟩ l[i]) S') := by
  have ge : (l.map rowE)[((i : Nat) : Int).toNat]? = some (rowE l[i]) := by simp [hi]
  generalize l[i] = e at ge
  obtain ⟨at_, r, d⟩ := e
  have hc : decide (((i : Nat) : Int) < ((l.map rowE).length : Int)) = true := by simp [hi]
  have hpos : decide ((((init.length + 1 : Nat) : Int)) > 0) = true := decide_eq_true (by omega)
  have e1 : IntKind.wrap .i64 (((init.length + 1 : Nat) : Int) - 1) = (init.length : Int) := by rw [wrap_small _ (by omega) (by omega)]; omega
  have h0 : 0 ≤ IntKind.wrap .i64 (((init.length + 1 : Nat) : Int) - 1) := by rw [e1]; omega
  have hlt : IntKind.wrap .i64 (((init.length + 1 : Nat) : Int) - 1) < ((init.length + 1 : Nat) : Int) := by rw [e1]; omega
  unfold body17b
  repeat (first
    | refine z_seq ?_
    | refine z_region rfl ?_
    | refine o_nil ?_
    | refine u_seq ?_
    | refine u_blk ?_
    | refine z_block ?_
    | refine z_skip ?_
    | refine z_ct rfl ?_
    | refine z_cf rfl ?_
    | refine z_exit ?_
    | refine z_ret ?_
    | refine u_exit ?_
    | refine u_exit_seq ?_
    | refine u_exit_other rfl ?_
    | refine u_ret_seq ?_
    | refine u_ret_blk ?_
    | refine o_gy rfl ?_
    | refine o_gn rfl rfl ?_
    | refine o_gt rfl ?_
    | refine o_mov rfl ?_
    | refine o_load rfl rfl ?_
    | refine o_loadn rfl rfl rfl rfl ?_
    | refine o_store rfl rfl rfl rfl rfl rfl rfl ?_
    | refine o_faddrm rfl ?_
    | refine o_faddrv rfl rfl rfl ?_
    | refine o_idxarrm rfl rfl rfl ?_
    | refine o_alloc ?_
    | refine o_pickt rfl rfl ?_
    | refine o_pickf rfl rfl ?_
    | refine o_un rfl rfl ?_
    | refine o_len rfl rfl ?_
    | refine o_build rfl rfl ?_
    | refine o_bslice rfl rfl ?_
    | refine o_box rfl rfl ?_
    | refine o_minmax2 rfl rfl rfl ?_
    | refine o_field rfl rfl ?_
    | refine o_append rfl rfl rfl rfl ?_
    | refine o_extract rfl rfl ?_
    | refine o_lenc ?_
    | refine z_drawn0 env0_ok rfl rfl rfl ?_
    | refine o_bin (op := .add) rfl rfl rfl ?_
    | refine o_bin (op := .sub) rfl rfl rfl ?_
    | refine o_eqbt rfl rfl rfl ?_
    | refine o_eqbf rfl rfl rfl ?_
    | refine o_cmpt rfl rfl rfl ?_
    | refine o_cmpf rfl rfl rfl ?_)
  refine o_cmp rfl rfl rfl (fun _ => ?_) fun h => absurd hc (by rw [h]; simp)
  repeat (first
    | refine z_seq ?_
    | refine z_region rfl ?_
    | refine o_nil ?_
    | refine u_seq ?_
    | refine u_blk ?_
    | refine z_block ?_
    | refine z_skip ?_
    | refine z_ct rfl ?_
    | refine z_cf rfl ?_
    | refine z_exit ?_
    | refine z_ret ?_
    | refine u_exit ?_
    | refine u_exit_seq ?_
    | refine u_exit_other rfl ?_
    | refine u_ret_seq ?_
    | refine u_ret_blk ?_
    | refine o_gy rfl ?_
    | refine o_gn rfl rfl ?_
    | refine o_gt rfl ?_
    | refine o_mov rfl ?_
    | refine o_load rfl rfl ?_
    | refine o_loadn rfl rfl rfl rfl ?_
    | refine o_store rfl rfl rfl rfl rfl rfl rfl ?_
    | refine o_faddrm rfl ?_
    | refine o_faddrv rfl rfl rfl ?_
    | refine o_idxarrm rfl rfl rfl ?_
    | refine o_alloc ?_
    | refine o_pickt rfl rfl ?_
    | refine o_pickf rfl rfl ?_
    | refine o_un rfl rfl ?_
    | refine o_len rfl rfl ?_
    | refine o_build rfl rfl ?_
    | refine o_bslice rfl rfl ?_
    | refine o_box rfl rfl ?_
    | refine o_minmax2 rfl rfl rfl ?_
    | refine o_field rfl rfl ?_
    | refine o_append rfl rfl rfl rfl ?_
    | refine o_extract rfl rfl ?_
    | refine o_lenc ?_
    | refine z_drawn0 env0_ok rfl rfl rfl ?_
    | refine o_bin (op := .add) rfl rfl rfl ?_
    | refine o_bin (op := .sub) rfl rfl rfl ?_
    | refine o_eqbt rfl rfl rfl ?_
    | refine o_eqbf rfl rfl rfl ?_
    | refine o_cmpt rfl rfl rfl ?_
    | refine o_cmpf rfl rfl rfl ?_)
  refine o_idxs rfl rfl (Int.natCast_nonneg i) ge rfl ?_
  cases r <;> cases d <;> cases d0 <;> cases d1
  all_goals
    repeat (first
      | refine z_seq ?_
      | refine z_region rfl ?_
      | refine o_nil ?_
      | refine u_seq ?_
      | refine u_blk ?_
      | refine z_block ?_
      | refine z_skip ?_
      | refine z_ct rfl ?_
      | refine z_cf rfl ?_
      | refine z_exit ?_
      | refine z_ret ?_
      | refine u_exit ?_
      | refine u_exit_seq ?_
      | refine u_exit_other rfl ?_
      | refine u_ret_seq ?_
      | refine u_ret_blk ?_
      | refine o_gy rfl ?_
      | refine o_gn rfl rfl ?_
      | refine o_gt rfl ?_
      | refine o_mov rfl ?_
      | refine o_load rfl rfl ?_
      | refine o_loadn rfl rfl rfl rfl ?_
      | refine o_store rfl rfl rfl rfl rfl rfl rfl ?_
      | refine o_faddrm rfl ?_
      | refine o_faddrv rfl rfl rfl ?_
      | refine o_idxarrm rfl rfl rfl ?_
      | refine o_alloc ?_
      | refine o_pickt rfl rfl ?_
      | refine o_pickf rfl rfl ?_
      | refine o_un rfl rfl ?_
      | refine o_len rfl rfl ?_
      | refine o_build rfl rfl ?_
      | refine o_bslice rfl rfl ?_
      | refine o_box rfl rfl ?_
      | refine o_minmax2 rfl rfl rfl ?_
      | refine o_field rfl rfl ?_
      | refine o_append rfl rfl rfl rfl ?_
      | refine o_extract rfl rfl ?_
      | refine o_lenc ?_
      | refine z_drawn0 env0_ok rfl rfl rfl ?_
      | refine o_bin (op := .add) rfl rfl rfl ?_
      | refine o_bin (op := .sub) rfl rfl rfl ?_
      | refine o_eqbt rfl rfl rfl ?_
      | refine o_eqbf rfl rfl rfl ?_
      | refine o_cmpt rfl rfl rfl ?_
      | refine o_cmpf rfl rfl rfl ?_)
    try exact u_end ⟨rfl, _, sub_ren [(0, 0, [.bool _, .bool _]), (1, 0, [.int .i64 _, .int .i64 _]), (2, 0, (init.map rowP).flatten ++ [.int .i64 p, .int .i64 q])] rfl rfl (by simp) (.cons rfl rfl (ren_keep rfl) (.cons rfl rfl (ren_keep rfl) (.cons rfl rfl (ren_keep (hM2 init p q)) .nil))) (.cons rfl (.same rfl) (.cons rfl (.ms rfl) (.cons rfl (.mptr rfl) (.cons rfl (.mptr rfl) (.cons rfl (.same rfl) (.cons rfl (.same rfl) (.cons rfl (.same rfl) (.cons rfl (ren_eq (congrArg (AV.int .i64) (wrap_succ i (by omega))) rfl) .nil)))))))), .some init p q rfl⟩
  · refine o_cmp rfl rfl rfl (fun _ => ?_) fun h => absurd hpos (by rw [h]; simp)
    repeat (first
      | refine z_seq ?_
      | refine z_region rfl ?_
      | refine o_nil ?_
      | refine u_seq ?_
      | refine u_blk ?_
      | refine z_block ?_
      | refine z_skip ?_
      | refine z_ct rfl ?_
      | refine z_cf rfl ?_
      | refine z_exit ?_
      | refine z_ret ?_
      | refine u_exit ?_
      | refine u_exit_seq ?_
      | refine u_exit_other rfl ?_
      | refine u_ret_seq ?_
      | refine u_ret_blk ?_
      | refine o_gy rfl ?_
      | refine o_gn rfl rfl ?_
      | refine o_gt rfl ?_
      | refine o_mov rfl ?_
      | refine o_load rfl rfl ?_
      | refine o_loadn rfl rfl rfl rfl ?_
      | refine o_store rfl rfl rfl rfl rfl rfl rfl ?_
      | refine o_faddrm rfl ?_
      | refine o_faddrv rfl rfl rfl ?_
      | refine o_idxarrm rfl rfl rfl ?_
      | refine o_alloc ?_
      | refine o_pickt rfl rfl ?_
      | refine o_pickf rfl rfl ?_
      | refine o_un rfl rfl ?_
      | refine o_len rfl rfl ?_
      | refine o_build rfl rfl ?_
      | refine o_bslice rfl rfl ?_
      | refine o_box rfl rfl ?_
      | refine o_minmax2 rfl rfl rfl ?_
      | refine o_field rfl rfl ?_
      | refine o_append rfl rfl rfl rfl ?_
      | refine o_extract rfl rfl ?_
      | refine o_lenc ?_
      | refine z_drawn0 env0_ok rfl rfl rfl ?_
      | refine o_bin (op := .add) rfl rfl rfl ?_
      | refine o_bin (op := .sub) rfl rfl rfl ?_
      | refine o_eqbt rfl rfl rfl ?_
      | refine o_eqbf rfl rfl rfl ?_
      | refine o_cmpt rfl rfl rfl ?_
      | refine o_cmpf rfl rfl rfl ?_)
    refine o_idxsm rfl rfl h0 hlt ?_
    repeat (first
      | refine z_seq ?_
      | refine z_region rfl ?_
      | refine o_nil ?_
      | refine u_seq ?_
      | refine u_blk ?_
      | refine z_block ?_
      | refine z_skip ?_
      | refine z_ct rfl ?_
      | refine z_cf rfl ?_
      | refine z_exit ?_
      | refine z_ret ?_
      | refine u_exit ?_
      | refine u_exit_seq ?_
      | refine u_exit_other rfl ?_
      | refine u_ret_seq ?_
      | refine u_ret_blk ?_
      | refine o_gy rfl ?_
      | refine o_gn rfl rfl ?_
      | refine o_gt rfl ?_
      | refine o_mov rfl ?_
      | refine o_load rfl rfl ?_
      | refine o_loadn rfl rfl rfl rfl ?_
      | refine o_store rfl rfl rfl rfl rfl rfl rfl ?_
      | refine o_faddrm rfl ?_
      | refine o_faddrv rfl rfl rfl ?_
      | refine o_idxarrm rfl rfl rfl ?_
      | refine o_alloc ?_
      | refine o_pickt rfl rfl ?_
      | refine o_pickf rfl rfl ?_
      | refine o_un rfl rfl ?_
      | refine o_len rfl rfl ?_
      | refine o_build rfl rfl ?_
      | refine o_bslice rfl rfl ?_
      | refine o_box rfl rfl ?_
      | refine o_minmax2 rfl rfl rfl ?_
      | refine o_field rfl rfl ?_
      | refine o_append rfl rfl rfl rfl ?_
      | refine o_extract rfl rfl ?_
      | refine o_lenc ?_
      | refine z_drawn0 env0_ok rfl rfl rfl ?_
      | refine o_bin (op := .add) rfl rfl rfl ?_
      | refine o_bin (op := .sub) rfl rfl rfl ?_
      | refine o_eqbt rfl rfl rfl ?_
      | refine o_eqbf rfl rfl rfl ?_
      | refine o_cmpt rfl rfl rfl ?_
      | refine o_cmpf rfl rfl rfl ?_)
    refine o_load rfl (by show some (List.drop _ _) = _; rw [hdropB init p q hn]) ?_
    repeat (first
      | refine z_seq ?_
      | refine z_region rfl ?_
      | refine o_nil ?_
      | refine u_seq ?_
      | refine u_blk ?_
      | refine z_block ?_
      | refine z_skip ?_
      | refine z_ct rfl ?_
      | refine z_cf rfl ?_
      | refine z_exit ?_
      | refine z_ret ?_
      | refine u_exit ?_
      | refine u_exit_seq ?_
      | refine u_exit_other rfl ?_
      | refine u_ret_seq ?_
      | refine u_ret_blk ?_
      | refine o_gy rfl ?_
      | refine o_gn rfl rfl ?_
      | refine o_gt rfl ?_
      | refine o_mov rfl ?_
      | refine o_load rfl rfl ?_
      | refine o_loadn rfl rfl rfl rfl ?_
      | refine o_store rfl rfl rfl rfl rfl rfl rfl ?_
      | refine o_faddrm rfl ?_
      | refine o_faddrv rfl rfl rfl ?_
      | refine o_idxarrm rfl rfl rfl ?_
      | refine o_alloc ?_
      | refine o_pickt rfl rfl ?_
      | refine o_pickf rfl rfl ?_
      | refine o_un rfl rfl ?_
      | refine o_len rfl rfl ?_
      | refine o_build rfl rfl ?_
      | refine o_bslice rfl rfl ?_
      | refine o_box rfl rfl ?_
      | refine o_minmax2 rfl rfl rfl ?_
      | refine o_field rfl rfl ?_
      | refine o_append rfl rfl rfl rfl ?_
      | refine o_extract rfl rfl ?_
      | refine o_lenc ?_
      | refine z_drawn0 env0_ok rfl rfl rfl ?_
      | refine o_bin (op := .add) rfl rfl rfl ?_
      | refine o_bin (op := .sub) rfl rfl rfl ?_
      | refine o_eqbt rfl rfl rfl ?_
      | refine o_eqbf rfl rfl rfl ?_
      | refine o_cmpt rfl rfl rfl ?_
      | refine o_cmpf rfl rfl rfl ?_)
    refine o_cmp rfl rfl rfl (fun h => ?_) fun h => ?_
    · have hq := of_decide_eq_true h
      repeat (first
        | refine z_seq ?_
        | refine z_region rfl ?_
        | refine o_nil ?_
        | refine u_seq ?_
        | refine u_blk ?_
        | refine z_block ?_
        | refine z_skip ?_
        | refine z_ct rfl ?_
        | refine z_cf rfl ?_
        | refine z_exit ?_
        | refine z_ret ?_
        | refine u_exit ?_
        | refine u_exit_seq ?_
        | refine u_exit_other rfl ?_
        | refine u_ret_seq ?_
        | refine u_ret_blk ?_
        | refine o_gy rfl ?_
        | refine o_gn rfl rfl ?_
        | refine o_gt rfl ?_
        | refine o_mov rfl ?_
        | refine o_load rfl rfl ?_
        | refine o_loadn rfl rfl rfl rfl ?_
        | refine o_store rfl rfl rfl rfl rfl rfl rfl ?_
        | refine o_faddrm rfl ?_
        | refine o_faddrv rfl rfl rfl ?_
        | refine o_idxarrm rfl rfl rfl ?_
        | refine o_alloc ?_
        | refine o_pickt rfl rfl ?_
        | refine o_pickf rfl rfl ?_
        | refine o_un rfl rfl ?_
        | refine o_len rfl rfl ?_
        | refine o_build rfl rfl ?_
        | refine o_bslice rfl rfl ?_
        | refine o_box rfl rfl ?_
        | refine o_minmax2 rfl rfl rfl ?_
        | refine o_field rfl rfl ?_
        | refine o_append rfl rfl rfl rfl ?_
        | refine o_extract rfl rfl ?_
        | refine o_lenc ?_
        | refine z_drawn0 env0_ok rfl rfl rfl ?_
        | refine o_bin (op := .add) rfl rfl rfl ?_
        | refine o_bin (op := .sub) rfl rfl rfl ?_
        | refine o_eqbt rfl rfl rfl ?_
        | refine o_eqbf rfl rfl rfl ?_
        | refine o_cmpt rfl rfl rfl ?_
        | refine o_cmpf rfl rfl rfl ?_)
      refine o_idxsm rfl rfl h0 hlt ?_
      repeat (first
        | refine z_seq ?_
        | refine z_region rfl ?_
        | refine o_nil ?_
        | refine u_seq ?_
        | refine u_blk ?_
        | refine z_block ?_
        | refine z_skip ?_
        | refine z_ct rfl ?_
        | refine z_cf rfl ?_
        | refine z_exit ?_
        | refine z_ret ?_
        | refine u_exit ?_
        | refine u_exit_seq ?_
        | refine u_exit_other rfl ?_
        | refine u_ret_seq ?_
        | refine u_ret_blk ?_
        | refine o_gy rfl ?_
        | refine o_gn rfl rfl ?_
        | refine o_gt rfl ?_
        | refine o_mov rfl ?_
        | refine o_load rfl rfl ?_
        | refine o_loadn rfl rfl rfl rfl ?_
        | refine o_store rfl rfl rfl rfl rfl rfl rfl ?_
        | refine o_faddrm rfl ?_
        | refine o_faddrv rfl rfl rfl ?_
        | refine o_idxarrm rfl rfl rfl ?_
        | refine o_alloc ?_
        | refine o_pickt rfl rfl ?_
        | refine o_pickf rfl rfl ?_
        | refine o_un rfl rfl ?_
        | refine o_len rfl rfl ?_
        | refine o_build rfl rfl ?_
        | refine o_bslice rfl rfl ?_
        | refine o_box rfl rfl ?_
        | refine o_minmax2 rfl rfl rfl ?_
        | refine o_field rfl rfl ?_
        | refine o_append rfl rfl rfl rfl ?_
        | refine o_extract rfl rfl ?_
        | refine o_lenc ?_
        | refine z_drawn0 env0_ok rfl rfl rfl ?_
        | refine o_bin (op := .add) rfl rfl rfl ?_
        | refine o_bin (op := .sub) rfl rfl rfl ?_
        | refine o_eqbt rfl rfl rfl ?_
        | refine o_eqbf rfl rfl rfl ?_
        | refine o_cmpt rfl rfl rfl ?_
        | refine o_cmpf rfl rfl rfl ?_)
      refine o_store rfl rfl rfl rfl rfl (hleB init p q hn) rfl ?_
      repeat (first
        | refine z_seq ?_
        | refine z_region rfl ?_
        | refine o_nil ?_
        | refine u_seq ?_
        | refine u_blk ?_
        | refine z_block ?_
        | refine z_skip ?_
        | refine z_ct rfl ?_
        | refine z_cf rfl ?_
        | refine z_exit ?_
        | refine z_ret ?_
        | refine u_exit ?_
        | refine u_exit_seq ?_
        | refine u_exit_other rfl ?_
        | refine u_ret_seq ?_
        | refine u_ret_blk ?_
        | refine o_gy rfl ?_
        | refine o_gn rfl rfl ?_
        | refine o_gt rfl ?_
        | refine o_mov rfl ?_
        | refine o_load rfl rfl ?_
        | refine o_loadn rfl rfl rfl rfl ?_
        | refine o_store rfl rfl rfl rfl rfl rfl rfl ?_
        | refine o_faddrm rfl ?_
        | refine o_faddrv rfl rfl rfl ?_
        | refine o_idxarrm rfl rfl rfl ?_
        | refine o_alloc ?_
        | refine o_pickt rfl rfl ?_
        | refine o_pickf rfl rfl ?_
        | refine o_un rfl rfl ?_
        | refine o_len rfl rfl ?_
        | refine o_build rfl rfl ?_
        | refine o_bslice rfl rfl ?_
        | refine o_box rfl rfl ?_
        | refine o_minmax2 rfl rfl rfl ?_
        | refine o_field rfl rfl ?_
        | refine o_append rfl rfl rfl rfl ?_
        | refine o_extract rfl rfl ?_
        | refine o_lenc ?_
        | refine z_drawn0 env0_ok rfl rfl rfl ?_
        | refine o_bin (op := .add) rfl rfl rfl ?_
        | refine o_bin (op := .sub) rfl rfl rfl ?_
        | refine o_eqbt rfl rfl rfl ?_
        | refine o_eqbf rfl rfl rfl ?_
        | refine o_cmpt rfl rfl rfl ?_
        | refine o_cmpf rfl rfl rfl ?_)
      exact u_end ⟨rfl, _, sub_ren [(0, 0, [.bool _, .bool _]), (1, 0, [.int .i64 _, .int .i64 _]), (2, 0, (init.map rowP).flatten ++ [.int .i64 p, .int .i64 at_])] rfl rfl (by simp) (.cons rfl rfl (ren_keep rfl) (.cons rfl rfl (ren_keep rfl) (.cons (by rw [← hsetB init p q at_ hn]; rfl) rfl (ren_keep (hM2 init p at_)) .nil))) (.cons rfl (.same rfl) (.cons rfl (.ms rfl) (.cons rfl (.mptr rfl) (.cons rfl (.mptr rfl) (.cons rfl (.same rfl) (.cons rfl (.same rfl) (.cons rfl (.same rfl) (.cons rfl (ren_eq (congrArg (AV.int .i64) (wrap_succ i (by omega))) rfl) .nil)))))))), .some init p at_ ((closeL_eq init p q at_).trans (if_pos hq))⟩
    · have hq := of_decide_eq_false h
      repeat (first
        | refine z_seq ?_
        | refine z_region rfl ?_
        | refine o_nil ?_
        | refine u_seq ?_
        | refine u_blk ?_
        | refine z_block ?_
        | refine z_skip ?_
        | refine z_ct rfl ?_
        | refine z_cf rfl ?_
        | refine z_exit ?_
        | refine z_ret ?_
        | refine u_exit ?_
        | refine u_exit_seq ?_
        | refine u_exit_other rfl ?_
        | refine u_ret_seq ?_
        | refine u_ret_blk ?_
        | refine o_gy rfl ?_
        | refine o_gn rfl rfl ?_
        | refine o_gt rfl ?_
        | refine o_mov rfl ?_
        | refine o_load rfl rfl ?_
        | refine o_loadn rfl rfl rfl rfl ?_
        | refine o_store rfl rfl rfl rfl rfl rfl rfl ?_
        | refine o_faddrm rfl ?_
        | refine o_faddrv rfl rfl rfl ?_
        | refine o_idxarrm rfl rfl rfl ?_
        | refine o_alloc ?_
        | refine o_pickt rfl rfl ?_
        | refine o_pickf rfl rfl ?_
        | refine o_un rfl rfl ?_
        | refine o_len rfl rfl ?_
        | refine o_build rfl rfl ?_
        | refine o_bslice rfl rfl ?_
        | refine o_box rfl rfl ?_
        | refine o_minmax2 rfl rfl rfl ?_
        | refine o_field rfl rfl ?_
        | refine o_append rfl rfl rfl rfl ?_
        | refine o_extract rfl rfl ?_
        | refine o_lenc ?_
        | refine z_drawn0 env0_ok rfl rfl rfl ?_
        | refine o_bin (op := .add) rfl rfl rfl ?_
        | refine o_bin (op := .sub) rfl rfl rfl ?_
        | refine o_eqbt rfl rfl rfl ?_
        | refine o_eqbf rfl rfl rfl ?_
        | refine o_cmpt rfl rfl rfl ?_
        | refine o_cmpf rfl rfl rfl ?_)
      exact u_end ⟨rfl, _, sub_ren [(0, 0, [.bool _, .bool _]), (1, 0, [.int .i64 _, .int .i64 _]), (2, 0, (init.map rowP).flatten ++ [.int .i64 p, .int .i64 q])] rfl rfl (by simp) (.cons rfl rfl (ren_keep rfl) (.cons rfl rfl (ren_keep rfl) (.cons rfl rfl (ren_keep (hM2 init p q)) .nil))) (.cons rfl (.same rfl) (.cons rfl (.ms rfl) (.cons rfl (.mptr rfl) (.cons rfl (.mptr rfl) (.cons rfl (.same rfl) (.cons rfl (.same rfl) (.cons rfl (.same rfl) (.cons rfl (ren_eq (congrArg (AV.int .i64) (wrap_succ i (by omega))) rfl) .nil)))))))), .some init p q ((closeL_eq init p q at_).trans (if_neg hq))⟩
  · refine o_cmp rfl rfl rfl (fun _ => ?_) fun h => absurd hpos (by rw [h]; simp)
    repeat (first
      | refine z_seq ?_
      | refine z_region rfl ?_
      | refine o_nil ?_
      | refine u_seq ?_
      | refine u_blk ?_
      | refine z_block ?_
      | refine z_skip ?_
      | refine z_ct rfl ?_
      | refine z_cf rfl ?_
      | refine z_exit ?_
      | refine z_ret ?_
      | refine u_exit ?_
      | refine u_exit_seq ?_
      | refine u_exit_other rfl ?_
      | refine u_ret_seq ?_
      | refine u_ret_blk ?_
      | refine o_gy rfl ?_
      | refine o_gn rfl rfl ?_
      | refine o_gt rfl ?_
      | refine o_mov rfl ?_
      | refine o_load rfl rfl ?_
      | refine o_loadn rfl rfl rfl rfl ?_
      | refine o_store rfl rfl rfl rfl rfl rfl rfl ?_
      | refine o_faddrm rfl ?_
      | refine o_faddrv rfl rfl rfl ?_
      | refine o_idxarrm rfl rfl rfl ?_
      | refine o_alloc ?_
      | refine o_pickt rfl rfl ?_
      | refine o_pickf rfl rfl ?_
      | refine o_un rfl rfl ?_
      | refine o_len rfl rfl ?_
      | refine o_build rfl rfl ?_
      | refine o_bslice rfl rfl ?_
      | refine o_box rfl rfl ?_
      | refine o_minmax2 rfl rfl rfl ?_
      | refine o_field rfl rfl ?_
      | refine o_append rfl rfl rfl rfl ?_
      | refine o_extract rfl rfl ?_
      | refine o_lenc ?_
      | refine z_drawn0 env0_ok rfl rfl rfl ?_
      | refine o_bin (op := .add) rfl rfl rfl ?_
      | refine o_bin (op := .sub) rfl rfl rfl ?_
      | refine o_eqbt rfl rfl rfl ?_
      | refine o_eqbf rfl rfl rfl ?_
      | refine o_cmpt rfl rfl rfl ?_
      | refine o_cmpf rfl rfl rfl ?_)
    refine o_idxsm rfl rfl h0 hlt ?_
    repeat (first
      | refine z_seq ?_
      | refine z_region rfl ?_
      | refine o_nil ?_
      | refine u_seq ?_
      | refine u_blk ?_
      | refine z_block ?_
      | refine z_skip ?_
      | refine z_ct rfl ?_
      | refine z_cf rfl ?_
      | refine z_exit ?_
      | refine z_ret ?_
      | refine u_exit ?_
      | refine u_exit_seq ?_
      | refine u_exit_other rfl ?_
      | refine u_ret_seq ?_
      | refine u_ret_blk ?_
      | refine o_gy rfl ?_
      | refine o_gn rfl rfl ?_
      | refine o_gt rfl ?_
      | refine o_mov rfl ?_
      | refine o_load rfl rfl ?_
      | refine o_loadn rfl rfl rfl rfl ?_
      | refine o_store rfl rfl rfl rfl rfl rfl rfl ?_
      | refine o_faddrm rfl ?_
      | refine o_faddrv rfl rfl rfl ?_
      | refine o_idxarrm rfl rfl rfl ?_
      | refine o_alloc ?_
      | refine o_pickt rfl rfl ?_
      | refine o_pickf rfl rfl ?_
      | refine o_un rfl rfl ?_
      | refine o_len rfl rfl ?_
      | refine o_build rfl rfl ?_
      | refine o_bslice rfl rfl ?_
      | refine o_box rfl rfl ?_
      | refine o_minmax2 rfl rfl rfl ?_
      | refine o_field rfl rfl ?_
      | refine o_append rfl rfl rfl rfl ?_
      | refine o_extract rfl rfl ?_
      | refine o_lenc ?_
      | refine z_drawn0 env0_ok rfl rfl rfl ?_
      | refine o_bin (op := .add) rfl rfl rfl ?_
      | refine o_bin (op := .sub) rfl rfl rfl ?_
      | refine o_eqbt rfl rfl rfl ?_
      | refine o_eqbf rfl rfl rfl ?_
      | refine o_cmpt rfl rfl rfl ?_
      | refine o_cmpf rfl rfl rfl ?_)
    refine o_load rfl (by show some (List.drop _ _) = _; rw [hdropB init p q hn]) ?_
    repeat (first
      | refine z_seq ?_
      | refine z_region rfl ?_
      | refine o_nil ?_
      | refine u_seq ?_
      | refine u_blk ?_
      | refine z_block ?_
      | refine z_skip ?_
      | refine z_ct rfl ?_
      | refine z_cf rfl ?_
      | refine z_exit ?_
      | refine z_ret ?_
      | refine u_exit ?_
      | refine u_exit_seq ?_
      | refine u_exit_other rfl ?_
      | refine u_ret_seq ?_
      | refine u_ret_blk ?_
      | refine o_gy rfl ?_
      | refine o_gn rfl rfl ?_
      | refine o_gt rfl ?_
      | refine o_mov rfl ?_
      | refine o_load rfl rfl ?_
      | refine o_loadn rfl rfl rfl rfl ?_
      | refine o_store rfl rfl rfl rfl rfl rfl rfl ?_
      | refine o_faddrm rfl ?_
      | refine o_faddrv rfl rfl rfl ?_
      | refine o_idxarrm rfl rfl rfl ?_
      | refine o_alloc ?_
      | refine o_pickt rfl rfl ?_
      | refine o_pickf rfl rfl ?_
      | refine o_un rfl rfl ?_
      | refine o_len rfl rfl ?_
      | refine o_build rfl rfl ?_
      | refine o_bslice rfl rfl ?_
      | refine o_box rfl rfl ?_
      | refine o_minmax2 rfl rfl rfl ?_
      | refine o_field rfl rfl ?_
      | refine o_append rfl rfl rfl rfl ?_
      | refine o_extract rfl rfl ?_
      | refine o_lenc ?_
      | refine z_drawn0 env0_ok rfl rfl rfl ?_
      | refine o_bin (op := .add) rfl rfl rfl ?_
      | refine o_bin (op := .sub) rfl rfl rfl ?_
      | refine o_eqbt rfl rfl rfl ?_
      | refine o_eqbf rfl rfl rfl ?_
      | refine o_cmpt rfl rfl rfl ?_
      | refine o_cmpf rfl rfl rfl ?_)
    refine o_cmp rfl rfl rfl (fun h => ?_) fun h => ?_
    · have hq := of_decide_eq_true h
      repeat (first
        | refine z_seq ?_
        | refine z_region rfl ?_
        | refine o_nil ?_
        | refine u_seq ?_
        | refine u_blk ?_
        | refine z_block ?_
        | refine z_skip ?_
        | refine z_ct rfl ?_
        | refine z_cf rfl ?_
        | refine z_exit ?_
        | refine z_ret ?_
        | refine u_exit ?_
        | refine u_exit_seq ?_
        | refine u_exit_other rfl ?_
        | refine u_ret_seq ?_
        | refine u_ret_blk ?_
        | refine o_gy rfl ?_
        | refine o_gn rfl rfl ?_
        | refine o_gt rfl ?_
        | refine o_mov rfl ?_
        | refine o_load rfl rfl ?_
        | refine o_loadn rfl rfl rfl rfl ?_
        | refine o_store rfl rfl rfl rfl rfl rfl rfl ?_
        | refine o_faddrm rfl ?_
        | refine o_faddrv rfl rfl rfl ?_
        | refine o_idxarrm rfl rfl rfl ?_
        | refine o_alloc ?_
        | refine o_pickt rfl rfl ?_
        | refine o_pickf rfl rfl ?_
        | refine o_un rfl rfl ?_
        | refine o_len rfl rfl ?_
        | refine o_build rfl rfl ?_
        | refine o_bslice rfl rfl ?_
        | refine o_box rfl rfl ?_
        | refine o_minmax2 rfl rfl rfl ?_
        | refine o_field rfl rfl ?_
        | refine o_append rfl rfl rfl rfl ?_
        | refine o_extract rfl rfl ?_
        | refine o_lenc ?_
        | refine z_drawn0 env0_ok rfl rfl rfl ?_
        | refine o_bin (op := .add) rfl rfl rfl ?_
        | refine o_bin (op := .sub) rfl rfl rfl ?_
        | refine o_eqbt rfl rfl rfl ?_
        | refine o_eqbf rfl rfl rfl ?_
        | refine o_cmpt rfl rfl rfl ?_
        | refine o_cmpf rfl rfl rfl ?_)
      refine o_idxsm rfl rfl h0 hlt ?_
      repeat (first
        | refine z_seq ?_
        | refine z_region rfl ?_
        | refine o_nil ?_
        | refine u_seq ?_
        | refine u_blk ?_
        | refine z_block ?_
        | refine z_skip ?_
        | refine z_ct rfl ?_
        | refine z_cf rfl ?_
        | refine z_exit ?_
        | refine z_ret ?_
        | refine u_exit ?_
        | refine u_exit_seq ?_
        | refine u_exit_other rfl ?_
        | refine u_ret_seq ?_
        | refine u_ret_blk ?_
        | refine o_gy rfl ?_
        | refine o_gn rfl rfl ?_
        | refine o_gt rfl ?_
        | refine o_mov rfl ?_
        | refine o_load rfl rfl ?_
        | refine o_loadn rfl rfl rfl rfl ?_
        | refine o_store rfl rfl rfl rfl rfl rfl rfl ?_
        | refine o_faddrm rfl ?_
        | refine o_faddrv rfl rfl rfl ?_
        | refine o_idxarrm rfl rfl rfl ?_
        | refine o_alloc ?_
        | refine o_pickt rfl rfl ?_
        | refine o_pickf rfl rfl ?_
        | refine o_un rfl rfl ?_
        | refine o_len rfl rfl ?_
        | refine o_build rfl rfl ?_
        | refine o_bslice rfl rfl ?_
        | refine o_box rfl rfl ?_
        | refine o_minmax2 rfl rfl rfl ?_
        | refine o_field rfl rfl ?_
        | refine o_append rfl rfl rfl rfl ?_
        | refine o_extract rfl rfl ?_
        | refine o_lenc ?_
        | refine z_drawn0 env0_ok rfl rfl rfl ?_
        | refine o_bin (op := .add) rfl rfl rfl ?_
        | refine o_bin (op := .sub) rfl rfl rfl ?_
        | refine o_eqbt rfl rfl rfl ?_
        | refine o_eqbf rfl rfl rfl ?_
        | refine o_cmpt rfl rfl rfl ?_
        | refine o_cmpf rfl rfl rfl ?_)
      refine o_store rfl rfl rfl rfl rfl (hleB init p q hn) rfl ?_
      repeat (first
        | refine z_seq ?_
        | refine z_region rfl ?_
        | refine o_nil ?_
        | refine u_seq ?_
        | refine u_blk ?_
        | refine z_block ?_
        | refine z_skip ?_
        | refine z_ct rfl ?_
        | refine z_cf rfl ?_
        | refine z_exit ?_
        | refine z_ret ?_
        | refine u_exit ?_
        | refine u_exit_seq ?_
        | refine u_exit_other rfl ?_
        | refine u_ret_seq ?_
        | refine u_ret_blk ?_
        | refine o_gy rfl ?_
        | refine o_gn rfl rfl ?_
        | refine o_gt rfl ?_
        | refine o_mov rfl ?_
        | refine o_load rfl rfl ?_
        | refine o_loadn rfl rfl rfl rfl ?_
        | refine o_store rfl rfl rfl rfl rfl rfl rfl ?_
        | refine o_faddrm rfl ?_
        | refine o_faddrv rfl rfl rfl ?_
        | refine o_idxarrm rfl rfl rfl ?_
        | refine o_alloc ?_
        | refine o_pickt rfl rfl ?_
        | refine o_pickf rfl rfl ?_
        | refine o_un rfl rfl ?_
        | refine o_len rfl rfl ?_
        | refine o_build rfl rfl ?_
        | refine o_bslice rfl rfl ?_
        | refine o_box rfl rfl ?_
        | refine o_minmax2 rfl rfl rfl ?_
        | refine o_field rfl rfl ?_
        | refine o_append rfl rfl rfl rfl ?_
        | refine o_extract rfl rfl ?_
        | refine o_lenc ?_
        | refine z_drawn0 env0_ok rfl rfl rfl ?_
        | refine o_bin (op := .add) rfl rfl rfl ?_
        | refine o_bin (op := .sub) rfl rfl rfl ?_
        | refine o_eqbt rfl rfl rfl ?_
        | refine o_eqbf rfl rfl rfl ?_
        | refine o_cmpt rfl rfl rfl ?_
        | refine o_cmpf rfl rfl rfl ?_)
      exact u_end ⟨rfl, _, sub_ren [(0, 0, [.bool _, .bool _]), (1, 0, [.int .i64 _, .int .i64 _]), (2, 0, (init.map rowP).flatten ++ [.int .i64 p, .int .i64 at_])] rfl rfl (by simp) (.cons rfl rfl (ren_keep rfl) (.cons rfl rfl (ren_keep rfl) (.cons (by rw [← hsetB init p q at_ hn]; rfl) rfl (ren_keep (hM2 init p at_)) .nil))) (.cons rfl (.same rfl) (.cons rfl (.ms rfl) (.cons rfl (.mptr rfl) (.cons rfl (.mptr rfl) (.cons rfl (.same rfl) (.cons rfl (.same rfl) (.cons rfl (.same rfl) (.cons rfl (ren_eq (congrArg (AV.int .i64) (wrap_succ i (by omega))) rfl) .nil)))))))), .some init p at_ ((closeL_eq init p q at_).trans (if_pos hq))⟩
    · have hq := of_decide_eq_false h
      repeat (first
        | refine z_seq ?_
        | refine z_region rfl ?_
        | refine o_nil ?_
        | refine u_seq ?_
        | refine u_blk ?_
        | refine z_block ?_
        | refine z_skip ?_
        | refine z_ct rfl ?_
        | refine z_cf rfl ?_
        | refine z_exit ?_
        | refine z_ret ?_
        | refine u_exit ?_
        | refine u_exit_seq ?_
        | refine u_exit_other rfl ?_
        | refine u_ret_seq ?_
        | refine u_ret_blk ?_
        | refine o_gy rfl ?_
        | refine o_gn rfl rfl ?_
        | refine o_gt rfl ?_
        | refine o_mov rfl ?_
        | refine o_load rfl rfl ?_
        | refine o_loadn rfl rfl rfl rfl ?_
        | refine o_store rfl rfl rfl rfl rfl rfl rfl ?_
        | refine o_faddrm rfl ?_
        | refine o_faddrv rfl rfl rfl ?_
        | refine o_idxarrm rfl rfl rfl ?_
        | refine o_alloc ?_
        | refine o_pickt rfl rfl ?_
        | refine o_pickf rfl rfl ?_
        | refine o_un rfl rfl ?_
        | refine o_len rfl rfl ?_
        | refine o_build rfl rfl ?_
        | refine o_bslice rfl rfl ?_
        | refine o_box rfl rfl ?_
        | refine o_minmax2 rfl rfl rfl ?_
        | refine o_field rfl rfl ?_
        | refine o_append rfl rfl rfl rfl ?_
        | refine o_extract rfl rfl ?_
        | refine o_lenc ?_
        | refine z_drawn0 env0_ok rfl rfl rfl ?_
        | refine o_bin (op := .add) rfl rfl rfl ?_
        | refine o_bin (op := .sub) rfl rfl rfl ?_
        | refine o_eqbt rfl rfl rfl ?_
        | refine o_eqbf rfl rfl rfl ?_
        | refine o_cmpt rfl rfl rfl ?_
        | refine o_cmpf rfl rfl rfl ?_)
      exact u_end ⟨rfl, _, sub_ren [(0, 0, [.bool _, .bool _]), (1, 0, [.int .i64 _, .int .i64 _]), (2, 0, (init.map rowP).flatten ++ [.int .i64 p, .int .i64 q])] rfl rfl (by simp) (.cons rfl rfl (ren_keep rfl) (.cons rfl rfl (ren_keep rfl) (.cons rfl rfl (ren_keep (hM2 init p q)) .nil))) (.cons rfl (.same rfl) (.cons rfl (.ms rfl) (.cons rfl (.mptr rfl) (.cons rfl (.mptr rfl) (.cons rfl (.same rfl) (.cons rfl (.same rfl) (.cons rfl (.same rfl) (.cons rfl (ren_eq (congrArg (AV.int .i64) (wrap_succ i (by omega))) rfl) .nil)))))))), .some init p q ((closeL_eq init p q at_).trans (if_neg hq))⟩
  · refine o_cmp rfl rfl rfl (fun _ => ?_) fun h => absurd hpos (by rw [h]; simp)
    repeat (first
      | refine z_seq ?_
      | refine z_region rfl ?_
      | refine o_nil ?_
      | refine u_seq ?_
      | refine u_blk ?_
      | refine z_block ?_
      | refine z_skip ?_
      | refine z_ct rfl ?_
      | refine z_cf rfl ?_
      | refine z_exit ?_
      | refine z_ret ?_
      | refine u_exit ?_
      | refine u_exit_seq ?_
      | refine u_exit_other rfl ?_
      | refine u_ret_seq ?_
      | refine u_ret_blk ?_
      | refine o_gy rfl ?_
      | refine o_gn rfl rfl ?_
      | refine o_gt rfl ?_
      | refine o_mov rfl ?_
      | refine o_load rfl rfl ?_
      | refine o_loadn rfl rfl rfl rfl ?_
      | refine o_store rfl rfl rfl rfl rfl rfl rfl ?_
      | refine o_faddrm rfl ?_
      | refine o_faddrv rfl rfl rfl ?_
      | refine o_idxarrm rfl rfl rfl ?_
      | refine o_alloc ?_
      | refine o_pickt rfl rfl ?_
      | refine o_pickf rfl rfl ?_
      | refine o_un rfl rfl ?_
      | refine o_len rfl rfl ?_
      | refine o_build rfl rfl ?_
      | refine o_bslice rfl rfl ?_
      | refine o_box rfl rfl ?_
      | refine o_minmax2 rfl rfl rfl ?_
      | refine o_field rfl rfl ?_
      | refine o_append rfl rfl rfl rfl ?_
      | refine o_extract rfl rfl ?_
      | refine o_lenc ?_
      | refine z_drawn0 env0_ok rfl rfl rfl ?_
      | refine o_bin (op := .add) rfl rfl rfl ?_
      | refine o_bin (op := .sub) rfl rfl rfl ?_
      | refine o_eqbt rfl rfl rfl ?_
      | refine o_eqbf rfl rfl rfl ?_
      | refine o_cmpt rfl rfl rfl ?_
      | refine o_cmpf rfl rfl rfl ?_)
    exact u_end ⟨rfl, _, sub_ren [(0, 0, [.bool _, .bool _]), (1, 0, [.int .i64 _, .int .i64 _]), (2, 0, (init.map rowP).flatten ++ [.int .i64 p, .int .i64 q])] rfl rfl (by simp) (.cons rfl rfl (ren_keep rfl) (.cons rfl rfl (ren_keep rfl) (.cons rfl rfl (ren_keep (hM2 init p q)) .nil))) (.cons rfl (.same rfl) (.cons rfl (.ms rfl) (.cons rfl (.mptr rfl) (.cons rfl (.mptr rfl) (.cons rfl (.same rfl) (.cons rfl (.same rfl) (.cons rfl (.same rfl) (.cons rfl (ren_eq (congrArg (AV.int .i64) (wrap_succ i (by omega))) rfl) .nil)))))))), .some init p q rfl⟩
  · cases rdy
    · repeat (first
        | refine z_seq ?_
        | refine z_region rfl ?_
        | refine o_nil ?_
        | refine u_seq ?_
        | refine u_blk ?_
        | refine z_block ?_
        | refine z_skip ?_
        | refine z_ct rfl ?_
        | refine z_cf rfl ?_
        | refine z_exit ?_
        | refine z_ret ?_
        | refine u_exit ?_
        | refine u_exit_seq ?_
        | refine u_exit_other rfl ?_
        | refine u_ret_seq ?_
        | refine u_ret_blk ?_
        | refine o_gy rfl ?_
        | refine o_gn rfl rfl ?_
        | refine o_gt rfl ?_
        | refine o_mov rfl ?_
        | refine o_load rfl rfl ?_
        | refine o_loadn rfl rfl rfl rfl ?_
        | refine o_store rfl rfl rfl rfl rfl rfl rfl ?_
        | refine o_faddrm rfl ?_
        | refine o_faddrv rfl rfl rfl ?_
        | refine o_idxarrm rfl rfl rfl ?_
        | refine o_alloc ?_
        | refine o_pickt rfl rfl ?_
        | refine o_pickf rfl rfl ?_
        | refine o_un rfl rfl ?_
        | refine o_len rfl rfl ?_
        | refine o_build rfl rfl ?_
        | refine o_bslice rfl rfl ?_
        | refine o_box rfl rfl ?_
        | refine o_minmax2 rfl rfl rfl ?_
        | refine o_field rfl rfl ?_
        | refine o_append rfl rfl rfl rfl ?_
        | refine o_extract rfl rfl ?_
        | refine o_lenc ?_
        | refine z_drawn0 env0_ok rfl rfl rfl ?_
        | refine o_bin (op := .add) rfl rfl rfl ?_
        | refine o_bin (op := .sub) rfl rfl rfl ?_
        | refine o_eqbt rfl rfl rfl ?_
        | refine o_eqbf rfl rfl rfl ?_
        | refine o_cmpt rfl rfl rfl ?_
        | refine o_cmpf rfl rfl rfl ?_)
      refine o_cmp rfl rfl rfl (fun _ => ?_) fun h => absurd hpos (by rw [h]; simp)
      repeat (first
        | refine z_seq ?_
        | refine z_region rfl ?_
        | refine o_nil ?_
        | refine u_seq ?_
        | refine u_blk ?_
        | refine z_block ?_
        | refine z_skip ?_
        | refine z_ct rfl ?_
        | refine z_cf rfl ?_
        | refine z_exit ?_
        | refine z_ret ?_
        | refine u_exit ?_
        | refine u_exit_seq ?_
        | refine u_exit_other rfl ?_
        | refine u_ret_seq ?_
        | refine u_ret_blk ?_
        | refine o_gy rfl ?_
        | refine o_gn rfl rfl ?_
        | refine o_gt rfl ?_
        | refine o_mov rfl ?_
        | refine o_load rfl rfl ?_
        | refine o_loadn rfl rfl rfl rfl ?_
        | refine o_store rfl rfl rfl rfl rfl rfl rfl ?_
        | refine o_faddrm rfl ?_
        | refine o_faddrv rfl rfl rfl ?_
        | refine o_idxarrm rfl rfl rfl ?_
        | refine o_alloc ?_
        | refine o_pickt rfl rfl ?_
        | refine o_pickf rfl rfl ?_
        | refine o_un rfl rfl ?_
        | refine o_len rfl rfl ?_
        | refine o_build rfl rfl ?_
        | refine o_bslice rfl rfl ?_
        | refine o_box rfl rfl ?_
        | refine o_minmax2 rfl rfl rfl ?_
        | refine o_field rfl rfl ?_
        | refine o_append rfl rfl rfl rfl ?_
        | refine o_extract rfl rfl ?_
        | refine o_lenc ?_
        | refine z_drawn0 env0_ok rfl rfl rfl ?_
        | refine o_bin (op := .add) rfl rfl rfl ?_
        | refine o_bin (op := .sub) rfl rfl rfl ?_
        | refine o_eqbt rfl rfl rfl ?_
        | refine o_eqbf rfl rfl rfl ?_
        | refine o_cmpt rfl rfl rfl ?_
        | refine o_cmpf rfl rfl rfl ?_)
      exact u_end ⟨rfl, _, sub_ren [(0, 0, [.bool _, .bool _]), (1, 0, [.int .i64 _, .int .i64 _]), (2, 0, (init.map rowP).flatten ++ [.int .i64 p, .int .i64 q])] rfl rfl (by simp) (.cons rfl rfl (ren_keep rfl) (.cons rfl rfl (ren_keep rfl) (.cons rfl rfl (ren_keep (hM2 init p q)) .nil))) (.cons rfl (.same rfl) (.cons rfl (.ms rfl) (.cons rfl (.mptr rfl) (.cons rfl (.mptr rfl) (.cons rfl (.same rfl) (.cons rfl (.same rfl) (.cons rfl (.same rfl) (.cons rfl (ren_eq (congrArg (AV.int .i64) (wrap_succ i (by omega))) rfl) .nil)))))))), .some init p q rfl⟩
    · repeat (first
        | refine z_seq ?_
        | refine z_region rfl ?_
        | refine o_nil ?_
        | refine u_seq ?_
        | refine u_blk ?_
        | refine z_block ?_
        | refine z_skip ?_
        | refine z_ct rfl ?_
        | refine z_cf rfl ?_
        | refine z_exit ?_
        | refine z_ret ?_
        | refine u_exit ?_
        | refine u_exit_seq ?_
        | refine u_exit_other rfl ?_
        | refine u_ret_seq ?_
        | refine u_ret_blk ?_
        | refine o_gy rfl ?_
        | refine o_gn rfl rfl ?_
        | refine o_gt rfl ?_
        | refine o_mov rfl ?_
        | refine o_load rfl rfl ?_
        | refine o_loadn rfl rfl rfl rfl ?_
        | refine o_store rfl rfl rfl rfl rfl rfl rfl ?_
        | refine o_faddrm rfl ?_
        | refine o_faddrv rfl rfl rfl ?_
        | refine o_idxarrm rfl rfl rfl ?_
        | refine o_alloc ?_
        | refine o_pickt rfl rfl ?_
        | refine o_pickf rfl rfl ?_
        | refine o_un rfl rfl ?_
        | refine o_len rfl rfl ?_
        | refine o_build rfl rfl ?_
        | refine o_bslice rfl rfl ?_
        | refine o_box rfl rfl ?_
        | refine o_minmax2 rfl rfl rfl ?_
        | refine o_field rfl rfl ?_
        | refine o_append rfl rfl rfl rfl ?_
        | refine o_extract rfl rfl ?_
        | refine o_lenc ?_
        | refine z_drawn0 env0_ok rfl rfl rfl ?_
        | refine o_bin (op := .add) rfl rfl rfl ?_
        | refine o_bin (op := .sub) rfl rfl rfl ?_
        | refine o_eqbt rfl rfl rfl ?_
        | refine o_eqbf rfl rfl rfl ?_
        | refine o_cmpt rfl rfl rfl ?_
        | refine o_cmpf rfl rfl rfl ?_)
      refine o_cmp rfl rfl rfl (fun h => ?_) fun h => ?_
      · have hle := of_decide_eq_true h
        repeat (first
          | refine z_seq ?_
          | refine z_region rfl ?_
          | refine o_nil ?_
          | refine u_seq ?_
          | refine u_blk ?_
          | refine z_block ?_
          | refine z_skip ?_
          | refine z_ct rfl ?_
          | refine z_cf rfl ?_
          | refine z_exit ?_
          | refine z_ret ?_
          | refine u_exit ?_
          | refine u_exit_seq ?_
          | refine u_exit_other rfl ?_
          | refine u_ret_seq ?_
          | refine u_ret_blk ?_
          | refine o_gy rfl ?_
          | refine o_gn rfl rfl ?_
          | refine o_gt rfl ?_
          | refine o_mov rfl ?_
          | refine o_load rfl rfl ?_
          | refine o_loadn rfl rfl rfl rfl ?_
          | refine o_store rfl rfl rfl rfl rfl rfl rfl ?_
          | refine o_faddrm rfl ?_
          | refine o_faddrv rfl rfl rfl ?_
          | refine o_idxarrm rfl rfl rfl ?_
          | refine o_alloc ?_
          | refine o_pickt rfl rfl ?_
          | refine o_pickf rfl rfl ?_
          | refine o_un rfl rfl ?_
          | refine o_len rfl rfl ?_
          | refine o_build rfl rfl ?_
          | refine o_bslice rfl rfl ?_
          | refine o_box rfl rfl ?_
          | refine o_minmax2 rfl rfl rfl ?_
          | refine o_field rfl rfl ?_
          | refine o_append rfl rfl rfl rfl ?_
          | refine o_extract rfl rfl ?_
          | refine o_lenc ?_
          | refine z_drawn0 env0_ok rfl rfl rfl ?_
          | refine o_bin (op := .add) rfl rfl rfl ?_
          | refine o_bin (op := .sub) rfl rfl rfl ?_
          | refine o_eqbt rfl rfl rfl ?_
          | refine o_eqbf rfl rfl rfl ?_
          | refine o_cmpt rfl rfl rfl ?_
          | refine o_cmpf rfl rfl rfl ?_)
        refine o_append_ms [rowP (at_, -1099511627776)] rfl rfl rfl (by simp) rfl (by decide) rfl (by rw [List.length_append, flat_length (sz := 2) (fun x hx => by obtain ⟨_, _, rfl⟩ := List.mem_map.1 hx; rfl), List.length_map]; simp; omega) (by simp; omega) ?_
        repeat (first
          | refine z_seq ?_
          | refine z_region rfl ?_
          | refine o_nil ?_
          | refine u_seq ?_
          | refine u_blk ?_
          | refine z_block ?_
          | refine z_skip ?_
          | refine z_ct rfl ?_
          | refine z_cf rfl ?_
          | refine z_exit ?_
          | refine z_ret ?_
          | refine u_exit ?_
          | refine u_exit_seq ?_
          | refine u_exit_other rfl ?_
          | refine u_ret_seq ?_
          | refine u_ret_blk ?_
          | refine o_gy rfl ?_
          | refine o_gn rfl rfl ?_
          | refine o_gt rfl ?_
          | refine o_mov rfl ?_
          | refine o_load rfl rfl ?_
          | refine o_loadn rfl rfl rfl rfl ?_
          | refine o_store rfl rfl rfl rfl rfl rfl rfl ?_
          | refine o_faddrm rfl ?_
          | refine o_faddrv rfl rfl rfl ?_
          | refine o_idxarrm rfl rfl rfl ?_
          | refine o_alloc ?_
          | refine o_pickt rfl rfl ?_
          | refine o_pickf rfl rfl ?_
          | refine o_un rfl rfl ?_
          | refine o_len rfl rfl ?_
          | refine o_build rfl rfl ?_
          | refine o_bslice rfl rfl ?_
          | refine o_box rfl rfl ?_
          | refine o_minmax2 rfl rfl rfl ?_
          | refine o_field rfl rfl ?_
          | refine o_append rfl rfl rfl rfl ?_
          | refine o_extract rfl rfl ?_
          | refine o_lenc ?_
          | refine z_drawn0 env0_ok rfl rfl rfl ?_
          | refine o_bin (op := .add) rfl rfl rfl ?_
          | refine o_bin (op := .sub) rfl rfl rfl ?_
          | refine o_eqbt rfl rfl rfl ?_
          | refine o_eqbf rfl rfl rfl ?_
          | refine o_cmpt rfl rfl rfl ?_
          | refine o_cmpf rfl rfl rfl ?_)
        have hpos2 : decide ((((init.length + 1 + [rowP (at_, -1099511627776)].length : Nat) : Int)) > 0) = true := by simp; omega
        refine o_cmp rfl rfl rfl (fun _ => ?_) fun h => absurd hpos2 (by rw [h]; simp)
        repeat (first
          | refine z_seq ?_
          | refine z_region rfl ?_
          | refine o_nil ?_
          | refine u_seq ?_
          | refine u_blk ?_
          | refine z_block ?_
          | refine z_skip ?_
          | refine z_ct rfl ?_
          | refine z_cf rfl ?_
          | refine z_exit ?_
          | refine z_ret ?_
          | refine u_exit ?_
          | refine u_exit_seq ?_
          | refine u_exit_other rfl ?_
          | refine u_ret_seq ?_
          | refine u_ret_blk ?_
          | refine o_gy rfl ?_
          | refine o_gn rfl rfl ?_
          | refine o_gt rfl ?_
          | refine o_mov rfl ?_
          | refine o_load rfl rfl ?_
          | refine o_loadn rfl rfl rfl rfl ?_
          | refine o_store rfl rfl rfl rfl rfl rfl rfl ?_
          | refine o_faddrm rfl ?_
          | refine o_faddrv rfl rfl rfl ?_
          | refine o_idxarrm rfl rfl rfl ?_
          | refine o_alloc ?_
          | refine o_pickt rfl rfl ?_
          | refine o_pickf rfl rfl ?_
          | refine o_un rfl rfl ?_
          | refine o_len rfl rfl ?_
          | refine o_build rfl rfl ?_
          | refine o_bslice rfl rfl ?_
          | refine o_box rfl rfl ?_
          | refine o_minmax2 rfl rfl rfl ?_
          | refine o_field rfl rfl ?_
          | refine o_append rfl rfl rfl rfl ?_
          | refine o_extract rfl rfl ?_
          | refine o_lenc ?_
          | refine z_drawn0 env0_ok rfl rfl rfl ?_
          | refine o_bin (op := .add) rfl rfl rfl ?_
          | refine o_bin (op := .sub) rfl rfl rfl ?_
          | refine o_eqbt rfl rfl rfl ?_
          | refine o_eqbf rfl rfl rfl ?_
          | refine o_cmpt rfl rfl rfl ?_
          | refine o_cmpf rfl rfl rfl ?_)
        have hlen : init.length + 1 + 1 = (init ++ [(p, q)]).length + 1 := by simp
        have hcs : ((init.map rowP).flatten ++ [AV.int .i64 p, .int .i64 q]) ++ [rowP (at_, -1099511627776)].flatten = ((init ++ [(p, q)]).map rowP).flatten ++ [AV.int .i64 at_, .int .i64 (-1099511627776)] := by simp [rowP]
        refine u_end ⟨rfl, _, ?_, .some (init ++ [(p, q)]) at_ (-1099511627776) (if_pos ⟨rfl, hle⟩)⟩
        rw [← hlen, ← hcs]
        exact sub_ren [(0, 0, [.bool _, .bool _]), (1, 0, [.int .i64 _, .int .i64 _]), (2, 3, ((init.map rowP).flatten ++ [AV.int .i64 p, .int .i64 q]) ++ [rowP (at_, -1099511627776)].flatten)] rfl rfl (by simp) (.cons rfl rfl (ren_keep rfl) (.cons rfl rfl (ren_keep rfl) (.cons rfl rfl (ren_keep (hasML_append (hM2 init p q) rfl)) .nil))) (.cons rfl (.same rfl) (.cons rfl (.ms rfl) (.cons rfl (.mptr rfl) (.cons rfl (.mptr rfl) (.cons rfl (.same rfl) (.cons rfl (.same rfl) (.cons rfl (.same rfl) (.cons rfl (ren_eq (congrArg (AV.int .i64) (wrap_succ i (by omega))) rfl) .nil))))))))
      · have hle := of_decide_eq_false h
        repeat (first
          | refine z_seq ?_
          | refine z_region rfl ?_
          | refine o_nil ?_
          | refine u_seq ?_
          | refine u_blk ?_
          | refine z_block ?_
          | refine z_skip ?_
          | refine z_ct rfl ?_
          | refine z_cf rfl ?_
          | refine z_exit ?_
          | refine z_ret ?_
          | refine u_exit ?_
          | refine u_exit_seq ?_
          | refine u_exit_other rfl ?_
          | refine u_ret_seq ?_
          | refine u_ret_blk ?_
          | refine o_gy rfl ?_
          | refine o_gn rfl rfl ?_
          | refine o_gt rfl ?_
          | refine o_mov rfl ?_
          | refine o_load rfl rfl ?_
          | refine o_loadn rfl rfl rfl rfl ?_
          | refine o_store rfl rfl rfl rfl rfl rfl rfl ?_
          | refine o_faddrm rfl ?_
          | refine o_faddrv rfl rfl rfl ?_
          | refine o_idxarrm rfl rfl rfl ?_
          | refine o_alloc ?_
          | refine o_pickt rfl rfl ?_
          | refine o_pickf rfl rfl ?_
          | refine o_un rfl rfl ?_
          | refine o_len rfl rfl ?_
          | refine o_build rfl rfl ?_
          | refine o_bslice rfl rfl ?_
          | refine o_box rfl rfl ?_
          | refine o_minmax2 rfl rfl rfl ?_
          | refine o_field rfl rfl ?_
          | refine o_append rfl rfl rfl rfl ?_
          | refine o_extract rfl rfl ?_
          | refine o_lenc ?_
          | refine z_drawn0 env0_ok rfl rfl rfl ?_
          | refine o_bin (op := .add) rfl rfl rfl ?_
          | refine o_bin (op := .sub) rfl rfl rfl ?_
          | refine o_eqbt rfl rfl rfl ?_
          | refine o_eqbf rfl rfl rfl ?_
          | refine o_cmpt rfl rfl rfl ?_
          | refine o_cmpf rfl rfl rfl ?_)
        refine o_cmp rfl rfl rfl (fun _ => ?_) fun h => absurd hpos (by rw [h]; simp)
        repeat (first
          | refine z_seq ?_
          | refine z_region rfl ?_
          | refine o_nil ?_
          | refine u_seq ?_
          | refine u_blk ?_
          | refine z_block ?_
          | refine z_skip ?_
          | refine z_ct rfl ?_
          | refine z_cf rfl ?_
          | refine z_exit ?_
          | refine z_ret ?_
          | refine u_exit ?_
          | refine u_exit_seq ?_
          | refine u_exit_other rfl ?_
          | refine u_ret_seq ?_
          | refine u_ret_blk ?_
          | refine o_gy rfl ?_
          | refine o_gn rfl rfl ?_
          | refine o_gt rfl ?_
          | refine o_mov rfl ?_
          | refine o_load rfl rfl ?_
          | refine o_loadn rfl rfl rfl rfl ?_
          | refine o_store rfl rfl rfl rfl rfl rfl rfl ?_
          | refine o_faddrm rfl ?_
          | refine o_faddrv rfl rfl rfl ?_
          | refine o_idxarrm rfl rfl rfl ?_
          | refine o_alloc ?_
          | refine o_pickt rfl rfl ?_
          | refine o_pickf rfl rfl ?_
          | refine o_un rfl rfl ?_
          | refine o_len rfl rfl ?_
          | refine o_build rfl rfl ?_
          | refine o_bslice rfl rfl ?_
          | refine o_box rfl rfl ?_
          | refine o_minmax2 rfl rfl rfl ?_
          | refine o_field rfl rfl ?_
          | refine o_append rfl rfl rfl rfl ?_
          | refine o_extract rfl rfl ?_
          | refine o_lenc ?_
          | refine z_drawn0 env0_ok rfl rfl rfl ?_
          | refine o_bin (op := .add) rfl rfl rfl ?_
          | refine o_bin (op := .sub) rfl rfl rfl ?_
          | refine o_eqbt rfl rfl rfl ?_
          | refine o_eqbf rfl rfl rfl ?_
          | refine o_cmpt rfl rfl rfl ?_
          | refine o_cmpf rfl rfl rfl ?_)
        exact u_end ⟨rfl, _, sub_ren [(0, 0, [.bool _, .bool _]), (1, 0, [.int .i64 _, .int .i64 _]), (2, 0, (init.map rowP).flatten ++ [.int .i64 p, .int .i64 q])] rfl rfl (by simp) (.cons rfl rfl (ren_keep rfl) (.cons rfl rfl (ren_keep rfl) (.cons rfl rfl (ren_keep (hM2 init p q)) .nil))) (.cons rfl (.same rfl) (.cons rfl (.ms rfl) (.cons rfl (.mptr rfl) (.cons rfl (.mptr rfl) (.cons rfl (.same rfl) (.cons rfl (.same rfl) (.cons rfl (.same rfl) (.cons rfl (ren_eq (congrArg (AV.int .i64) (wrap_succ i (by omega))) rfl) .nil)))))))), .some init p q (if_neg fun x => hle x.2)⟩
  · refine o_cmp rfl rfl rfl (fun _ => ?_) fun h => absurd hpos (by rw [h]; simp)
    repeat (first
      | refine z_seq ?_
      | refine z_region rfl ?_
      | refine o_nil ?_
      | refine u_seq ?_
      | refine u_blk ?_
      | refine z_block ?_
      | refine z_skip ?_
      | refine z_ct rfl ?_
      | refine z_cf rfl ?_
      | refine z_exit ?_
      | refine z_ret ?_
      | refine u_exit ?_
      | refine u_exit_seq ?_
      | refine u_exit_other rfl ?_
      | refine u_ret_seq ?_
      | refine u_ret_blk ?_
      | refine o_gy rfl ?_
      | refine o_gn rfl rfl ?_
      | refine o_gt rfl ?_
      | refine o_mov rfl ?_
      | refine o_load rfl rfl ?_
      | refine o_loadn rfl rfl rfl rfl ?_
      | refine o_store rfl rfl rfl rfl rfl rfl rfl ?_
      | refine o_faddrm rfl ?_
      | refine o_faddrv rfl rfl rfl ?_
      | refine o_idxarrm rfl rfl rfl ?_
      | refine o_alloc ?_
      | refine o_pickt rfl rfl ?_
      | refine o_pickf rfl rfl ?_
      | refine o_un rfl rfl ?_
      | refine o_len rfl rfl ?_
      | refine o_build rfl rfl ?_
      | refine o_bslice rfl rfl ?_
      | refine o_box rfl rfl ?_
      | refine o_minmax2 rfl rfl rfl ?_
      | refine o_field rfl rfl ?_
      | refine o_append rfl rfl rfl rfl ?_
      | refine o_extract rfl rfl ?_
      | refine o_lenc ?_
      | refine z_drawn0 env0_ok rfl rfl rfl ?_
      | refine o_bin (op := .add) rfl rfl rfl ?_
      | refine o_bin (op := .sub) rfl rfl rfl ?_
      | refine o_eqbt rfl rfl rfl ?_
      | refine o_eqbf rfl rfl rfl ?_
      | refine o_cmpt rfl rfl rfl ?_
      | refine o_cmpf rfl rfl rfl ?_)
    refine o_idxsm rfl rfl h0 hlt ?_
    repeat (first
      | refine z_seq ?_
      | refine z_region rfl ?_
      | refine o_nil ?_
      | refine u_seq ?_
      | refine u_blk ?_
      | refine z_block ?_
      | refine z_skip ?_
      | refine z_ct rfl ?_
      | refine z_cf rfl ?_
      | refine z_exit ?_
      | refine z_ret ?_
      | refine u_exit ?_
      | refine u_exit_seq ?_
      | refine u_exit_other rfl ?_
      | refine u_ret_seq ?_
      | refine u_ret_blk ?_
      | refine o_gy rfl ?_
      | refine o_gn rfl rfl ?_
      | refine o_gt rfl ?_
      | refine o_mov rfl ?_
      | refine o_load rfl rfl ?_
      | refine o_loadn rfl rfl rfl rfl ?_
      | refine o_store rfl rfl rfl rfl rfl rfl rfl ?_
      | refine o_faddrm rfl ?_
      | refine o_faddrv rfl rfl rfl ?_
      | refine o_idxarrm rfl rfl rfl ?_
      | refine o_alloc ?_
      | refine o_pickt rfl rfl ?_
      | refine o_pickf rfl rfl ?_
      | refine o_un rfl rfl ?_
      | refine o_len rfl rfl ?_
      | refine o_build rfl rfl ?_
      | refine o_bslice rfl rfl ?_
      | refine o_box rfl rfl ?_
      | refine o_minmax2 rfl rfl rfl ?_
      | refine o_field rfl rfl ?_
      | refine o_append rfl rfl rfl rfl ?_
      | refine o_extract rfl rfl ?_
      | refine o_lenc ?_
      | refine z_drawn0 env0_ok rfl rfl rfl ?_
      | refine o_bin (op := .add) rfl rfl rfl ?_
      | refine o_bin (op := .sub) rfl rfl rfl ?_
      | refine o_eqbt rfl rfl rfl ?_
      | refine o_eqbf rfl rfl rfl ?_
      | refine o_cmpt rfl rfl rfl ?_
      | refine o_cmpf rfl rfl rfl ?_)
    refine o_load rfl (by show some (List.drop _ _) = _; rw [hdropB init p q hn]) ?_
    repeat (first
      | refine z_seq ?_
      | refine z_region rfl ?_
      | refine o_nil ?_
      | refine u_seq ?_
      | refine u_blk ?_
      | refine z_block ?_
      | refine z_skip ?_
      | refine z_ct rfl ?_
      | refine z_cf rfl ?_
      | refine z_exit ?_
      | refine z_ret ?_
      | refine u_exit ?_
      | refine u_exit_seq ?_
      | refine u_exit_other rfl ?_
      | refine u_ret_seq ?_
      | refine u_ret_blk ?_
      | refine o_gy rfl ?_
      | refine o_gn rfl rfl ?_
      | refine o_gt rfl ?_
      | refine o_mov rfl ?_
      | refine o_load rfl rfl ?_
      | refine o_loadn rfl rfl rfl rfl ?_
      | refine o_store rfl rfl rfl rfl rfl rfl rfl ?_
      | refine o_faddrm rfl ?_
      | refine o_faddrv rfl rfl rfl ?_
      | refine o_idxarrm rfl rfl rfl ?_
      | refine o_alloc ?_
      | refine o_pickt rfl rfl ?_
      | refine o_pickf rfl rfl ?_
      | refine o_un rfl rfl ?_
      | refine o_len rfl rfl ?_
      | refine o_build rfl rfl ?_
      | refine o_bslice rfl rfl ?_
      | refine o_box rfl rfl ?_
      | refine o_minmax2 rfl rfl rfl ?_
      | refine o_field rfl rfl ?_
      | refine o_append rfl rfl rfl rfl ?_
      | refine o_extract rfl rfl ?_
      | refine o_lenc ?_
      | refine z_drawn0 env0_ok rfl rfl rfl ?_
      | refine o_bin (op := .add) rfl rfl rfl ?_
      | refine o_bin (op := .sub) rfl rfl rfl ?_
      | refine o_eqbt rfl rfl rfl ?_
      | refine o_eqbf rfl rfl rfl ?_
      | refine o_cmpt rfl rfl rfl ?_
      | refine o_cmpf rfl rfl rfl ?_)
    refine o_cmp rfl rfl rfl (fun h => ?_) fun h => ?_
    · have hq := of_decide_eq_true h
      repeat (first
        | refine z_seq ?_
        | refine z_region rfl ?_
        | refine o_nil ?_
        | refine u_seq ?_
        | refine u_blk ?_
        | refine z_block ?_
        | refine z_skip ?_
        | refine z_ct rfl ?_
        | refine z_cf rfl ?_
        | refine z_exit ?_
        | refine z_ret ?_
        | refine u_exit ?_
        | refine u_exit_seq ?_
        | refine u_exit_other rfl ?_
        | refine u_ret_seq ?_
        | refine u_ret_blk ?_
        | refine o_gy rfl ?_
        | refine o_gn rfl rfl ?_
        | refine o_gt rfl ?_
        | refine o_mov rfl ?_
        | refine o_load rfl rfl ?_
        | refine o_loadn rfl rfl rfl rfl ?_
        | refine o_store rfl rfl rfl rfl rfl rfl rfl ?_
        | refine o_faddrm rfl ?_
        | refine o_faddrv rfl rfl rfl ?_
        | refine o_idxarrm rfl rfl rfl ?_
        | refine o_alloc ?_
        | refine o_pickt rfl rfl ?_
        | refine o_pickf rfl rfl ?_
        | refine o_un rfl rfl ?_
        | refine o_len rfl rfl ?_
        | refine o_build rfl rfl ?_
        | refine o_bslice rfl rfl ?_
        | refine o_box rfl rfl ?_
        | refine o_minmax2 rfl rfl rfl ?_
        | refine o_field rfl rfl ?_
        | refine o_append rfl rfl rfl rfl ?_
        | refine o_extract rfl rfl ?_
        | refine o_lenc ?_
        | refine z_drawn0 env0_ok rfl rfl rfl ?_
        | refine o_bin (op := .add) rfl rfl rfl ?_
        | refine o_bin (op := .sub) rfl rfl rfl ?_
        | refine o_eqbt rfl rfl rfl ?_
        | refine o_eqbf rfl rfl rfl ?_
        | refine o_cmpt rfl rfl rfl ?_
        | refine o_cmpf rfl rfl rfl ?_)
      refine o_idxsm rfl rfl h0 hlt ?_
      repeat (first
        | refine z_seq ?_
        | refine z_region rfl ?_
        | refine o_nil ?_
        | refine u_seq ?_
        | refine u_blk ?_
        | refine z_block ?_
        | refine z_skip ?_
        | refine z_ct rfl ?_
        | refine z_cf rfl ?_
        | refine z_exit ?_
        | refine z_ret ?_
        | refine u_exit ?_
        | refine u_exit_seq ?_
        | refine u_exit_other rfl ?_
        | refine u_ret_seq ?_
        | refine u_ret_blk ?_
        | refine o_gy rfl ?_
        | refine o_gn rfl rfl ?_
        | refine o_gt rfl ?_
        | refine o_mov rfl ?_
        | refine o_load rfl rfl ?_
        | refine o_loadn rfl rfl rfl rfl ?_
        | refine o_store rfl rfl rfl rfl rfl rfl rfl ?_
        | refine o_faddrm rfl ?_
        | refine o_faddrv rfl rfl rfl ?_
        | refine o_idxarrm rfl rfl rfl ?_
        | refine o_alloc ?_
        | refine o_pickt rfl rfl ?_
        | refine o_pickf rfl rfl ?_
        | refine o_un rfl rfl ?_
        | refine o_len rfl rfl ?_
        | refine o_build rfl rfl ?_
        | refine o_bslice rfl rfl ?_
        | refine o_box rfl rfl ?_
        | refine o_minmax2 rfl rfl rfl ?_
        | refine o_field rfl rfl ?_
        | refine o_append rfl rfl rfl rfl ?_
        | refine o_extract rfl rfl ?_
        | refine o_lenc ?_
        | refine z_drawn0 env0_ok rfl rfl rfl ?_
        | refine o_bin (op := .add) rfl rfl rfl ?_
        | refine o_bin (op := .sub) rfl rfl rfl ?_
        | refine o_eqbt rfl rfl rfl ?_
        | refine o_eqbf rfl rfl rfl ?_
        | refine o_cmpt rfl rfl rfl ?_
        | refine o_cmpf rfl rfl rfl ?_)
      refine o_store rfl rfl rfl rfl rfl (hleB init p q hn) rfl ?_
      repeat (first
        | refine z_seq ?_
        | refine z_region rfl ?_
        | refine o_nil ?_
        | refine u_seq ?_
        | refine u_blk ?_
        | refine z_block ?_
        | refine z_skip ?_
        | refine z_ct rfl ?_
        | refine z_cf rfl ?_
        | refine z_exit ?_
        | refine z_ret ?_
        | refine u_exit ?_
        | refine u_exit_seq ?_
        | refine u_exit_other rfl ?_
        | refine u_ret_seq ?_
        | refine u_ret_blk ?_
        | refine o_gy rfl ?_
        | refine o_gn rfl rfl ?_
        | refine o_gt rfl ?_
        | refine o_mov rfl ?_
        | refine o_load rfl rfl ?_
        | refine o_loadn rfl rfl rfl rfl ?_
        | refine o_store rfl rfl rfl rfl rfl rfl rfl ?_
        | refine o_faddrm rfl ?_
        | refine o_faddrv rfl rfl rfl ?_
        | refine o_idxarrm rfl rfl rfl ?_
        | refine o_alloc ?_
        | refine o_pickt rfl rfl ?_
        | refine o_pickf rfl rfl ?_
        | refine o_un rfl rfl ?_
        | refine o_len rfl rfl ?_
        | refine o_build rfl rfl ?_
        | refine o_bslice rfl rfl ?_
        | refine o_box rfl rfl ?_
        | refine o_minmax2 rfl rfl rfl ?_
        | refine o_field rfl rfl ?_
        | refine o_append rfl rfl rfl rfl ?_
        | refine o_extract rfl rfl ?_
        | refine o_lenc ?_
        | refine z_drawn0 env0_ok rfl rfl rfl ?_
        | refine o_bin (op := .add) rfl rfl rfl ?_
        | refine o_bin (op := .sub) rfl rfl rfl ?_
        | refine o_eqbt rfl rfl rfl ?_
        | refine o_eqbf rfl rfl rfl ?_
        | refine o_cmpt rfl rfl rfl ?_
        | refine o_cmpf rfl rfl rfl ?_)
      exact u_end ⟨rfl, _, sub_ren [(0, 0, [.bool _, .bool _]), (1, 0, [.int .i64 _, .int .i64 _]), (2, 0, (init.map rowP).flatten ++ [.int .i64 p, .int .i64 at_])] rfl rfl (by simp) (.cons rfl rfl (ren_keep rfl) (.cons rfl rfl (ren_keep rfl) (.cons (by rw [← hsetB init p q at_ hn]; rfl) rfl (ren_keep (hM2 init p at_)) .nil))) (.cons rfl (.same rfl) (.cons rfl (.ms rfl) (.cons rfl (.mptr rfl) (.cons rfl (.mptr rfl) (.cons rfl (.same rfl) (.cons rfl (.same rfl) (.cons rfl (.same rfl) (.cons rfl (ren_eq (congrArg (AV.int .i64) (wrap_succ i (by omega))) rfl) .nil)))))))), .some init p at_ ((closeL_eq init p q at_).trans (if_pos hq))⟩
    · have hq := of_decide_eq_false h
      repeat (first
        | refine z_seq ?_
        | refine z_region rfl ?_
        | refine o_nil ?_
        | refine u_seq ?_
        | refine u_blk ?_
        | refine z_block ?_
        | refine z_skip ?_
        | refine z_ct rfl ?_
        | refine z_cf rfl ?_
        | refine z_exit ?_
        | refine z_ret ?_
        | refine u_exit ?_
        | refine u_exit_seq ?_
        | refine u_exit_other rfl ?_
        | refine u_ret_seq ?_
        | refine u_ret_blk ?_
        | refine o_gy rfl ?_
        | refine o_gn rfl rfl ?_
        | refine o_gt rfl ?_
        | refine o_mov rfl ?_
        | refine o_load rfl rfl ?_
        | refine o_loadn rfl rfl rfl rfl ?_
        | refine o_store rfl rfl rfl rfl rfl rfl rfl ?_
        | refine o_faddrm rfl ?_
        | refine o_faddrv rfl rfl rfl ?_
        | refine o_idxarrm rfl rfl rfl ?_
        | refine o_alloc ?_
        | refine o_pickt rfl rfl ?_
        | refine o_pickf rfl rfl ?_
        | refine o_un rfl rfl ?_
        | refine o_len rfl rfl ?_
        | refine o_build rfl rfl ?_
        | refine o_bslice rfl rfl ?_
        | refine o_box rfl rfl ?_
        | refine o_minmax2 rfl rfl rfl ?_
        | refine o_field rfl rfl ?_
        | refine o_append rfl rfl rfl rfl ?_
        | refine o_extract rfl rfl ?_
        | refine o_lenc ?_
        | refine z_drawn0 env0_ok rfl rfl rfl ?_
        | refine o_bin (op := .add) rfl rfl rfl ?_
        | refine o_bin (op := .sub) rfl rfl rfl ?_
        | refine o_eqbt rfl rfl rfl ?_
        | refine o_eqbf rfl rfl rfl ?_
        | refine o_cmpt rfl rfl rfl ?_
        | refine o_cmpf rfl rfl rfl ?_)
      exact u_end ⟨rfl, _, sub_ren [(0, 0, [.bool _, .bool _]), (1, 0, [.int .i64 _, .int .i64 _]), (2, 0, (init.map rowP).flatten ++ [.int .i64 p, .int .i64 q])] rfl rfl (by simp) (.cons rfl rfl (ren_keep rfl) (.cons rfl rfl (ren_keep rfl) (.cons rfl rfl (ren_keep (hM2 init p q)) .nil))) (.cons rfl (.same rfl) (.cons rfl (.ms rfl) (.cons rfl (.mptr rfl) (.cons rfl (.mptr rfl) (.cons rfl (.same rfl) (.cons rfl (.same rfl) (.cons rfl (.same rfl) (.cons rfl (ren_eq (congrArg (AV.int .i64) (wrap_succ i (by omega))) rfl) .nil)))))))), .some init p q ((closeL_eq init p q at_).trans (if_neg hq))⟩
  · refine o_cmp rfl rfl rfl (fun _ => ?_) fun h => absurd hpos (by rw [h]; simp)
    repeat (first
      | refine z_seq ?_
      | refine z_region rfl ?_
      | refine o_nil ?_
      | refine u_seq ?_
      | refine u_blk ?_
      | refine z_block ?_
      | refine z_skip ?_
      | refine z_ct rfl ?_
      | refine z_cf rfl ?_
      | refine z_exit ?_
      | refine z_ret ?_
      | refine u_exit ?_
      | refine u_exit_seq ?_
      | refine u_exit_other rfl ?_
      | refine u_ret_seq ?_
      | refine u_ret_blk ?_
      | refine o_gy rfl ?_
      | refine o_gn rfl rfl ?_
      | refine o_gt rfl ?_
      | refine o_mov rfl ?_
      | refine o_load rfl rfl ?_
      | refine o_loadn rfl rfl rfl rfl ?_
      | refine o_store rfl rfl rfl rfl rfl rfl rfl ?_
      | refine o_faddrm rfl ?_
      | refine o_faddrv rfl rfl rfl ?_
      | refine o_idxarrm rfl rfl rfl ?_
      | refine o_alloc ?_
      | refine o_pickt rfl rfl ?_
      | refine o_pickf rfl rfl ?_
      | refine o_un rfl rfl ?_
      | refine o_len rfl rfl ?_
      | refine o_build rfl rfl ?_
      | refine o_bslice rfl rfl ?_
      | refine o_box rfl rfl ?_
      | refine o_minmax2 rfl rfl rfl ?_
      | refine o_field rfl rfl ?_
      | refine o_append rfl rfl rfl rfl ?_
      | refine o_extract rfl rfl ?_
      | refine o_lenc ?_
      | refine z_drawn0 env0_ok rfl rfl rfl ?_
      | refine o_bin (op := .add) rfl rfl rfl ?_
      | refine o_bin (op := .sub) rfl rfl rfl ?_
      | refine o_eqbt rfl rfl rfl ?_
      | refine o_eqbf rfl rfl rfl ?_
      | refine o_cmpt rfl rfl rfl ?_
      | refine o_cmpf rfl rfl rfl ?_)
    refine o_idxsm rfl rfl h0 hlt ?_
    repeat (first
      | refine z_seq ?_
      | refine z_region rfl ?_
      | refine o_nil ?_
      | refine u_seq ?_
      | refine u_blk ?_
      | refine z_block ?_
      | refine z_skip ?_
      | refine z_ct rfl ?_
      | refine z_cf rfl ?_
      | refine z_exit ?_
      | refine z_ret ?_
      | refine u_exit ?_
      | refine u_exit_seq ?_
      | refine u_exit_other rfl ?_
      | refine u_ret_seq ?_
      | refine u_ret_blk ?_
      | refine o_gy rfl ?_
      | refine o_gn rfl rfl ?_
      | refine o_gt rfl ?_
      | refine o_mov rfl ?_
      | refine o_load rfl rfl ?_
      | refine o_loadn rfl rfl rfl rfl ?_
      | refine o_store rfl rfl rfl rfl rfl rfl rfl ?_
      | refine o_faddrm rfl ?_
      | refine o_faddrv rfl rfl rfl ?_
      | refine o_idxarrm rfl rfl rfl ?_
      | refine o_alloc ?_
      | refine o_pickt rfl rfl ?_
      | refine o_pickf rfl rfl ?_
      | refine o_un rfl rfl ?_
      | refine o_len rfl rfl ?_
      | refine o_build rfl rfl ?_
      | refine o_bslice rfl rfl ?_
      | refine o_box rfl rfl ?_
      | refine o_minmax2 rfl rfl rfl ?_
      | refine o_field rfl rfl ?_
      | refine o_append rfl rfl rfl rfl ?_
      | refine o_extract rfl rfl ?_
      | refine o_lenc ?_
      | refine z_drawn0 env0_ok rfl rfl rfl ?_
      | refine o_bin (op := .add) rfl rfl rfl ?_
      | refine o_bin (op := .sub) rfl rfl rfl ?_
      | refine o_eqbt rfl rfl rfl ?_
      | refine o_eqbf rfl rfl rfl ?_
      | refine o_cmpt rfl rfl rfl ?_
      | refine o_cmpf rfl rfl rfl ?_)
    refine o_load rfl (by show some (List.drop _ _) = _; rw [hdropB init p q hn]) ?_
    repeat (first
      | refine z_seq ?_
      | refine z_region rfl ?_
      | refine o_nil ?_
      | refine u_seq ?_
      | refine u_blk ?_
      | refine z_block ?_
      | refine z_skip ?_
      | refine z_ct rfl ?_
      | refine z_cf rfl ?_
      | refine z_exit ?_
      | refine z_ret ?_
      | refine u_exit ?_
      | refine u_exit_seq ?_
      | refine u_exit_other rfl ?_
      | refine u_ret_seq ?_
      | refine u_ret_blk ?_
      | refine o_gy rfl ?_
      | refine o_gn rfl rfl ?_
      | refine o_gt rfl ?_
      | refine o_mov rfl ?_
      | refine o_load rfl rfl ?_
      | refine o_loadn rfl rfl rfl rfl ?_
      | refine o_store rfl rfl rfl rfl rfl rfl rfl ?_
      | refine o_faddrm rfl ?_
      | refine o_faddrv rfl rfl rfl ?_
      | refine o_idxarrm rfl rfl rfl ?_
      | refine o_alloc ?_
      | refine o_pickt rfl rfl ?_
      | refine o_pickf rfl rfl ?_
      | refine o_un rfl rfl ?_
      | refine o_len rfl rfl ?_
      | refine o_build rfl rfl ?_
      | refine o_bslice rfl rfl ?_
      | refine o_box rfl rfl ?_
      | refine o_minmax2 rfl rfl rfl ?_
      | refine o_field rfl rfl ?_
      | refine o_append rfl rfl rfl rfl ?_
      | refine o_extract rfl rfl ?_
      | refine o_lenc ?_
      | refine z_drawn0 env0_ok rfl rfl rfl ?_
      | refine o_bin (op := .add) rfl rfl rfl ?_
      | refine o_bin (op := .sub) rfl rfl rfl ?_
      | refine o_eqbt rfl rfl rfl ?_
      | refine o_eqbf rfl rfl rfl ?_
      | refine o_cmpt rfl rfl rfl ?_
      | refine o_cmpf rfl rfl rfl ?_)
    refine o_cmp rfl rfl rfl (fun h => ?_) fun h => ?_
    · have hq := of_decide_eq_true h
      repeat (first
        | refine z_seq ?_
        | refine z_region rfl ?_
        | refine o_nil ?_
        | refine u_seq ?_
        | refine u_blk ?_
        | refine z_block ?_
        | refine z_skip ?_
        | refine z_ct rfl ?_
        | refine z_cf rfl ?_
        | refine z_exit ?_
        | refine z_ret ?_
        | refine u_exit ?_
        | refine u_exit_seq ?_
        | refine u_exit_other rfl ?_
        | refine u_ret_seq ?_
        | refine u_ret_blk ?_
        | refine o_gy rfl ?_
        | refine o_gn rfl rfl ?_
        | refine o_gt rfl ?_
        | refine o_mov rfl ?_
        | refine o_load rfl rfl ?_
        | refine o_loadn rfl rfl rfl rfl ?_
        | refine o_store rfl rfl rfl rfl rfl rfl rfl ?_
        | refine o_faddrm rfl ?_
        | refine o_faddrv rfl rfl rfl ?_
        | refine o_idxarrm rfl rfl rfl ?_
        | refine o_alloc ?_
        | refine o_pickt rfl rfl ?_
        | refine o_pickf rfl rfl ?_
        | refine o_un rfl rfl ?_
        | refine o_len rfl rfl ?_
        | refine o_build rfl rfl ?_
        | refine o_bslice rfl rfl ?_
        | refine o_box rfl rfl ?_
        | refine o_minmax2 rfl rfl rfl ?_
        | refine o_field rfl rfl ?_
        | refine o_append rfl rfl rfl rfl ?_
        | refine o_extract rfl rfl ?_
        | refine o_lenc ?_
        | refine z_drawn0 env0_ok rfl rfl rfl ?_
        | refine o_bin (op := .add) rfl rfl rfl ?_
        | refine o_bin (op := .sub) rfl rfl rfl ?_
        | refine o_eqbt rfl rfl rfl ?_
        | refine o_eqbf rfl rfl rfl ?_
        | refine o_cmpt rfl rfl rfl ?_
        | refine o_cmpf rfl rfl rfl ?_)
      refine o_idxsm rfl rfl h0 hlt ?_
      repeat (first
        | refine z_seq ?_
        | refine z_region rfl ?_
        | refine o_nil ?_
        | refine u_seq ?_
        | refine u_blk ?_
        | refine z_block ?_
        | refine z_skip ?_
        | refine z_ct rfl ?_
        | refine z_cf rfl ?_
        | refine z_exit ?_
        | refine z_ret ?_
        | refine u_exit ?_
        | refine u_exit_seq ?_
        | refine u_exit_other rfl ?_
        | refine u_ret_seq ?_
        | refine u_ret_blk ?_
        | refine o_gy rfl ?_
        | refine o_gn rfl rfl ?_
        | refine o_gt rfl ?_
        | refine o_mov rfl ?_
        | refine o_load rfl rfl ?_
        | refine o_loadn rfl rfl rfl rfl ?_
        | refine o_store rfl rfl rfl rfl rfl rfl rfl ?_
        | refine o_faddrm rfl ?_
        | refine o_faddrv rfl rfl rfl ?_
        | refine o_idxarrm rfl rfl rfl ?_
        | refine o_alloc ?_
        | refine o_pickt rfl rfl ?_
        | refine o_pickf rfl rfl ?_
        | refine o_un rfl rfl ?_
        | refine o_len rfl rfl ?_
        | refine o_build rfl rfl ?_
        | refine o_bslice rfl rfl ?_
        | refine o_box rfl rfl ?_
        | refine o_minmax2 rfl rfl rfl ?_
        | refine o_field rfl rfl ?_
        | refine o_append rfl rfl rfl rfl ?_
        | refine o_extract rfl rfl ?_
        | refine o_lenc ?_
        | refine z_drawn0 env0_ok rfl rfl rfl ?_
        | refine o_bin (op := .add) rfl rfl rfl ?_
        | refine o_bin (op := .sub) rfl rfl rfl ?_
        | refine o_eqbt rfl rfl rfl ?_
        | refine o_eqbf rfl rfl rfl ?_
        | refine o_cmpt rfl rfl rfl ?_
        | refine o_cmpf rfl rfl rfl ?_)
      refine o_store rfl rfl rfl rfl rfl (hleB init p q hn) rfl ?_
      repeat (first
        | refine z_seq ?_
        | refine z_region rfl ?_
        | refine o_nil ?_
        | refine u_seq ?_
        | refine u_blk ?_
        | refine z_block ?_
        | refine z_skip ?_
        | refine z_ct rfl ?_
        | refine z_cf rfl ?_
        | refine z_exit ?_
        | refine z_ret ?_
        | refine u_exit ?_
        | refine u_exit_seq ?_
        | refine u_exit_other rfl ?_
        | refine u_ret_seq ?_
        | refine u_ret_blk ?_
        | refine o_gy rfl ?_
        | refine o_gn rfl rfl ?_
        | refine o_gt rfl ?_
        | refine o_mov rfl ?_
        | refine o_load rfl rfl ?_
        | refine o_loadn rfl rfl rfl rfl ?_
        | refine o_store rfl rfl rfl rfl rfl rfl rfl ?_
        | refine o_faddrm rfl ?_
        | refine o_faddrv rfl rfl rfl ?_
        | refine o_idxarrm rfl rfl rfl ?_
        | refine o_alloc ?_
        | refine o_pickt rfl rfl ?_
        | refine o_pickf rfl rfl ?_
        | refine o_un rfl rfl ?_
        | refine o_len rfl rfl ?_
        | refine o_build rfl rfl ?_
        | refine o_bslice rfl rfl ?_
        | refine o_box rfl rfl ?_
        | refine o_minmax2 rfl rfl rfl ?_
        | refine o_field rfl rfl ?_
        | refine o_append rfl rfl rfl rfl ?_
        | refine o_extract rfl rfl ?_
        | refine o_lenc ?_
        | refine z_drawn0 env0_ok rfl rfl rfl ?_
        | refine o_bin (op := .add) rfl rfl rfl ?_
        | refine o_bin (op := .sub) rfl rfl rfl ?_
        | refine o_eqbt rfl rfl rfl ?_
        | refine o_eqbf rfl rfl rfl ?_
        | refine o_cmpt rfl rfl rfl ?_
        | refine o_cmpf rfl rfl rfl ?_)
      exact u_end ⟨rfl, _, sub_ren [(0, 0, [.bool _, .bool _]), (1, 0, [.int .i64 _, .int .i64 _]), (2, 0, (init.map rowP).flatten ++ [.int .i64 p, .int .i64 at_])] rfl rfl (by simp) (.cons rfl rfl (ren_keep rfl) (.cons rfl rfl (ren_keep rfl) (.cons (by rw [← hsetB init p q at_ hn]; rfl) rfl (ren_keep (hM2 init p at_)) .nil))) (.cons rfl (.same rfl) (.cons rfl (.ms rfl) (.cons rfl (.mptr rfl) (.cons rfl (.mptr rfl) (.cons rfl (.same rfl) (.cons rfl (.same rfl) (.cons rfl (.same rfl) (.cons rfl (ren_eq (congrArg (AV.int .i64) (wrap_succ i (by omega))) rfl) .nil)))))))), .some init p at_ ((closeL_eq init p q at_).trans (if_pos hq))⟩
    · have hq := of_decide_eq_false h
      repeat (first
        | refine z_seq ?_
        | refine z_region rfl ?_
        | refine o_nil ?_
        | refine u_seq ?_
        | refine u_blk ?_
        | refine z_block ?_
        | refine z_skip ?_
        | refine z_ct rfl ?_
        | refine z_cf rfl ?_
        | refine z_exit ?_
        | refine z_ret ?_
        | refine u_exit ?_
        | refine u_exit_seq ?_
        | refine u_exit_other rfl ?_
        | refine u_ret_seq ?_
        | refine u_ret_blk ?_
        | refine o_gy rfl ?_
        | refine o_gn rfl rfl ?_
        | refine o_gt rfl ?_
        | refine o_mov rfl ?_
        | refine o_load rfl rfl ?_
        | refine o_loadn rfl rfl rfl rfl ?_
        | refine o_store rfl rfl rfl rfl rfl rfl rfl ?_
        | refine o_faddrm rfl ?_
        | refine o_faddrv rfl rfl rfl ?_
        | refine o_idxarrm rfl rfl rfl ?_
        | refine o_alloc ?_
        | refine o_pickt rfl rfl ?_
        | refine o_pickf rfl rfl ?_
        | refine o_un rfl rfl ?_
        | refine o_len rfl rfl ?_
        | refine o_build rfl rfl ?_
        | refine o_bslice rfl rfl ?_
        | refine o_box rfl rfl ?_
        | refine o_minmax2 rfl rfl rfl ?_
        | refine o_field rfl rfl ?_
        | refine o_append rfl rfl rfl rfl ?_
        | refine o_extract rfl rfl ?_
        | refine o_lenc ?_
        | refine z_drawn0 env0_ok rfl rfl rfl ?_
        | refine o_bin (op := .add) rfl rfl rfl ?_
        | refine o_bin (op := .sub) rfl rfl rfl ?_
        | refine o_eqbt rfl rfl rfl ?_
        | refine o_eqbf rfl rfl rfl ?_
        | refine o_cmpt rfl rfl rfl ?_
        | refine o_cmpf rfl rfl rfl ?_)
      exact u_end ⟨rfl, _, sub_ren [(0, 0, [.bool _, .bool _]), (1, 0, [.int .i64 _, .int .i64 _]), (2, 0, (init.map rowP).flatten ++ [.int .i64 p, .int .i64 q])] rfl rfl (by simp) (.cons rfl rfl (ren_keep rfl) (.cons rfl rfl (ren_keep rfl) (.cons rfl rfl (ren_keep (hM2 init p q)) .nil))) (.cons rfl (.same rfl) (.cons rfl (.ms rfl) (.cons rfl (.mptr rfl) (.cons rfl (.mptr rfl) (.cons rfl (.same rfl) (.cons rfl (.same rfl) (.cons rfl (.same rfl) (.cons rfl (ren_eq (congrArg (AV.int .i64) (wrap_succ i (by omega))) rfl) .nil)))))))), .some init p q ((closeL_eq init p q at_).trans (if_neg hq))⟩
  · refine o_cmp rfl rfl rfl (fun _ => ?_) fun h => absurd hpos (by rw [h]; simp)
    repeat (first
      | refine z_seq ?_
      | refine z_region rfl ?_
      | refine o_nil ?_
      | refine u_seq ?_
      | refine u_blk ?_
      | refine z_block ?_
      | refine z_skip ?_
      | refine z_ct rfl ?_
      | refine z_cf rfl ?_
      | refine z_exit ?_
      | refine z_ret ?_
      | refine u_exit ?_
      | refine u_exit_seq ?_
      | refine u_exit_other rfl ?_
      | refine u_ret_seq ?_
      | refine u_ret_blk ?_
      | refine o_gy rfl ?_
      | refine o_gn rfl rfl ?_
      | refine o_gt rfl ?_
      | refine o_mov rfl ?_
      | refine o_load rfl rfl ?_
      | refine o_loadn rfl rfl rfl rfl ?_
      | refine o_store rfl rfl rfl rfl rfl rfl rfl ?_
      | refine o_faddrm rfl ?_
      | refine o_faddrv rfl rfl rfl ?_
      | refine o_idxarrm rfl rfl rfl ?_
      | refine o_alloc ?_
      | refine o_pickt rfl rfl ?_
      | refine o_pickf rfl rfl ?_
      | refine o_un rfl rfl ?_
      | refine o_len rfl rfl ?_
      | refine o_build rfl rfl ?_
      | refine o_bslice rfl rfl ?_
      | refine o_box rfl rfl ?_
      | refine o_minmax2 rfl rfl rfl ?_
      | refine o_field rfl rfl ?_
      | refine o_append rfl rfl rfl rfl ?_
      | refine o_extract rfl rfl ?_
      | refine o_lenc ?_
      | refine z_drawn0 env0_ok rfl rfl rfl ?_
      | refine o_bin (op := .add) rfl rfl rfl ?_
      | refine o_bin (op := .sub) rfl rfl rfl ?_
      | refine o_eqbt rfl rfl rfl ?_
      | refine o_eqbf rfl rfl rfl ?_
      | refine o_cmpt rfl rfl rfl ?_
      | refine o_cmpf rfl rfl rfl ?_)
    exact u_end ⟨rfl, _, sub_ren [(0, 0, [.bool _, .bool _]), (1, 0, [.int .i64 _, .int .i64 _]), (2, 0, (init.map rowP).flatten ++ [.int .i64 p, .int .i64 q])] rfl rfl (by simp) (.cons rfl rfl (ren_keep rfl) (.cons rfl rfl (ren_keep rfl) (.cons rfl rfl (ren_keep (hM2 init p q)) .nil))) (.cons rfl (.same rfl) (.cons rfl (.ms rfl) (.cons rfl (.mptr rfl) (.cons rfl (.mptr rfl) (.cons rfl (.same rfl) (.cons rfl (.same rfl) (.cons rfl (.same rfl) (.cons rfl (ren_eq (congrArg (AV.int .i64) (wrap_succ i (by omega))) rfl) .nil)))))))), .some init p q rfl⟩
  · cases rdy
    · repeat (first
        | refine z_seq ?_
        | refine z_region rfl ?_
        | refine o_nil ?_
        | refine u_seq ?_
        | refine u_blk ?_
        | refine z_block ?_
        | refine z_skip ?_
        | refine z_ct rfl ?_
        | refine z_cf rfl ?_
        | refine z_exit ?_
        | refine z_ret ?_
        | refine u_exit ?_
        | refine u_exit_seq ?_
        | refine u_exit_other rfl ?_
        | refine u_ret_seq ?_
        | refine u_ret_blk ?_
        | refine o_gy rfl ?_
        | refine o_gn rfl rfl ?_
        | refine o_gt rfl ?_
        | refine o_mov rfl ?_
        | refine o_load rfl rfl ?_
        | refine o_loadn rfl rfl rfl rfl ?_
        | refine o_store rfl rfl rfl rfl rfl rfl rfl ?_
        | refine o_faddrm rfl ?_
        | refine o_faddrv rfl rfl rfl ?_
        | refine o_idxarrm rfl rfl rfl ?_
        | refine o_alloc ?_
        | refine o_pickt rfl rfl ?_
        | refine o_pickf rfl rfl ?_
        | refine o_un rfl rfl ?_
        | refine o_len rfl rfl ?_
        | refine o_build rfl rfl ?_
        | refine o_bslice rfl rfl ?_
        | refine o_box rfl rfl ?_
        | refine o_minmax2 rfl rfl rfl ?_
        | refine o_field rfl rfl ?_
        | refine o_append rfl rfl rfl rfl ?_
        | refine o_extract rfl rfl ?_
        | refine o_lenc ?_
        | refine z_drawn0 env0_ok rfl rfl rfl ?_
        | refine o_bin (op := .add) rfl rfl rfl ?_
        | refine o_bin (op := .sub) rfl rfl rfl ?_
        | refine o_eqbt rfl rfl rfl ?_
        | refine o_eqbf rfl rfl rfl ?_
        | refine o_cmpt rfl rfl rfl ?_
        | refine o_cmpf rfl rfl rfl ?_)
      refine o_cmp rfl rfl rfl (fun _ => ?_) fun h => absurd hpos (by rw [h]; simp)
      repeat (first
        | refine z_seq ?_
        | refine z_region rfl ?_
        | refine o_nil ?_
        | refine u_seq ?_
        | refine u_blk ?_
        | refine z_block ?_
        | refine z_skip ?_
        | refine z_ct rfl ?_
        | refine z_cf rfl ?_
        | refine z_exit ?_
        | refine z_ret ?_
        | refine u_exit ?_
        | refine u_exit_seq ?_
        | refine u_exit_other rfl ?_
        | refine u_ret_seq ?_
        | refine u_ret_blk ?_
        | refine o_gy rfl ?_
        | refine o_gn rfl rfl ?_
        | refine o_gt rfl ?_
        | refine o_mov rfl ?_
        | refine o_load rfl rfl ?_
        | refine o_loadn rfl rfl rfl rfl ?_
        | refine o_store rfl rfl rfl rfl rfl rfl rfl ?_
        | refine o_faddrm rfl ?_
        | refine o_faddrv rfl rfl rfl ?_
        | refine o_idxarrm rfl rfl rfl ?_
        | refine o_alloc ?_
        | refine o_pickt rfl rfl ?_
        | refine o_pickf rfl rfl ?_
        | refine o_un rfl rfl ?_
        | refine o_len rfl rfl ?_
        | refine o_build rfl rfl ?_
        | refine o_bslice rfl rfl ?_
        | refine o_box rfl rfl ?_
        | refine o_minmax2 rfl rfl rfl ?_
        | refine o_field rfl rfl ?_
        | refine o_append rfl rfl rfl rfl ?_
        | refine o_extract rfl rfl ?_
        | refine o_lenc ?_
        | refine z_drawn0 env0_ok rfl rfl rfl ?_
        | refine o_bin (op := .add) rfl rfl rfl ?_
        | refine o_bin (op := .sub) rfl rfl rfl ?_
        | refine o_eqbt rfl rfl rfl ?_
        | refine o_eqbf rfl rfl rfl ?_
        | refine o_cmpt rfl rfl rfl ?_
        | refine o_cmpf rfl rfl rfl ?_)
      exact u_end ⟨rfl, _, sub_ren [(0, 0, [.bool _, .bool _]), (1, 0, [.int .i64 _, .int .i64 _]), (2, 0, (init.map rowP).flatten ++ [.int .i64 p, .int .i64 q])] rfl rfl (by simp) (.cons rfl rfl (ren_keep rfl) (.cons rfl rfl (ren_keep rfl) (.cons rfl rfl (ren_keep (hM2 init p q)) .nil))) (.cons rfl (.same rfl) (.cons rfl (.ms rfl) (.cons rfl (.mptr rfl) (.cons rfl (.mptr rfl) (.cons rfl (.same rfl) (.cons rfl (.same rfl) (.cons rfl (.same rfl) (.cons rfl (ren_eq (congrArg (AV.int .i64) (wrap_succ i (by omega))) rfl) .nil)))))))), .some init p q rfl⟩
    · repeat (first
        | refine z_seq ?_
        | refine z_region rfl ?_
        | refine o_nil ?_
        | refine u_seq ?_
        | refine u_blk ?_
        | refine z_block ?_
        | refine z_skip ?_
        | refine z_ct rfl ?_
        | refine z_cf rfl ?_
        | refine z_exit ?_
        | refine z_ret ?_
        | refine u_exit ?_
        | refine u_exit_seq ?_
        | refine u_exit_other rfl ?_
        | refine u_ret_seq ?_
        | refine u_ret_blk ?_
        | refine o_gy rfl ?_
        | refine o_gn rfl rfl ?_
        | refine o_gt rfl ?_
        | refine o_mov rfl ?_
        | refine o_load rfl rfl ?_
        | refine o_loadn rfl rfl rfl rfl ?_
        | refine o_store rfl rfl rfl rfl rfl rfl rfl ?_
        | refine o_faddrm rfl ?_
        | refine o_faddrv rfl rfl rfl ?_
        | refine o_idxarrm rfl rfl rfl ?_
        | refine o_alloc ?_
        | refine o_pickt rfl rfl ?_
        | refine o_pickf rfl rfl ?_
        | refine o_un rfl rfl ?_
        | refine o_len rfl rfl ?_
        | refine o_build rfl rfl ?_
        | refine o_bslice rfl rfl ?_
        | refine o_box rfl rfl ?_
        | refine o_minmax2 rfl rfl rfl ?_
        | refine o_field rfl rfl ?_
        | refine o_append rfl rfl rfl rfl ?_
        | refine o_extract rfl rfl ?_
        | refine o_lenc ?_
        | refine z_drawn0 env0_ok rfl rfl rfl ?_
        | refine o_bin (op := .add) rfl rfl rfl ?_
        | refine o_bin (op := .sub) rfl rfl rfl ?_
        | refine o_eqbt rfl rfl rfl ?_
        | refine o_eqbf rfl rfl rfl ?_
        | refine o_cmpt rfl rfl rfl ?_
        | refine o_cmpf rfl rfl rfl ?_)
      refine o_cmp rfl rfl rfl (fun h => ?_) fun h => ?_
      · have hle := of_decide_eq_true h
        repeat (first
          | refine z_seq ?_
          | refine z_region rfl ?_
          | refine o_nil ?_
          | refine u_seq ?_
          | refine u_blk ?_
          | refine z_block ?_
          | refine z_skip ?_
          | refine z_ct rfl ?_
          | refine z_cf rfl ?_
          | refine z_exit ?_
          | refine z_ret ?_
          | refine u_exit ?_
          | refine u_exit_seq ?_
          | refine u_exit_other rfl ?_
          | refine u_ret_seq ?_
          | refine u_ret_blk ?_
          | refine o_gy rfl ?_
          | refine o_gn rfl rfl ?_
          | refine o_gt rfl ?_
          | refine o_mov rfl ?_
          | refine o_load rfl rfl ?_
          | refine o_loadn rfl rfl rfl rfl ?_
          | refine o_store rfl rfl rfl rfl rfl rfl rfl ?_
          | refine o_faddrm rfl ?_
          | refine o_faddrv rfl rfl rfl ?_
          | refine o_idxarrm rfl rfl rfl ?_
          | refine o_alloc ?_
          | refine o_pickt rfl rfl ?_
          | refine o_pickf rfl rfl ?_
          | refine o_un rfl rfl ?_
          | refine o_len rfl rfl ?_
          | refine o_build rfl rfl ?_
          | refine o_bslice rfl rfl ?_
          | refine o_box rfl rfl ?_
          | refine o_minmax2 rfl rfl rfl ?_
          | refine o_field rfl rfl ?_
          | refine o_append rfl rfl rfl rfl ?_
          | refine o_extract rfl rfl ?_
          | refine o_lenc ?_
          | refine z_drawn0 env0_ok rfl rfl rfl ?_
          | refine o_bin (op := .add) rfl rfl rfl ?_
          | refine o_bin (op := .sub) rfl rfl rfl ?_
          | refine o_eqbt rfl rfl rfl ?_
          | refine o_eqbf rfl rfl rfl ?_
          | refine o_cmpt rfl rfl rfl ?_
          | refine o_cmpf rfl rfl rfl ?_)
        refine o_append_ms [rowP (at_, -1099511627776)] rfl rfl rfl (by simp) rfl (by decide) rfl (by rw [List.length_append, flat_length (sz := 2) (fun x hx => by obtain ⟨_, _, rfl⟩ := List.mem_map.1 hx; rfl), List.length_map]; simp; omega) (by simp; omega) ?_
        repeat (first
          | refine z_seq ?_
          | refine z_region rfl ?_
          | refine o_nil ?_
          | refine u_seq ?_
          | refine u_blk ?_
          | refine z_block ?_
          | refine z_skip ?_
          | refine z_ct rfl ?_
          | refine z_cf rfl ?_
          | refine z_exit ?_
          | refine z_ret ?_
          | refine u_exit ?_
          | refine u_exit_seq ?_
          | refine u_exit_other rfl ?_
          | refine u_ret_seq ?_
          | refine u_ret_blk ?_
          | refine o_gy rfl ?_
          | refine o_gn rfl rfl ?_
          | refine o_gt rfl ?_
          | refine o_mov rfl ?_
          | refine o_load rfl rfl ?_
          | refine o_loadn rfl rfl rfl rfl ?_
          | refine o_store rfl rfl rfl rfl rfl rfl rfl ?_
          | refine o_faddrm rfl ?_
          | refine o_faddrv rfl rfl rfl ?_
          | refine o_idxarrm rfl rfl rfl ?_
          | refine o_alloc ?_
          | refine o_pickt rfl rfl ?_
          | refine o_pickf rfl rfl ?_
          | refine o_un rfl rfl ?_
          | refine o_len rfl rfl ?_
          | refine o_build rfl rfl ?_
          | refine o_bslice rfl rfl ?_
          | refine o_box rfl rfl ?_
          | refine o_minmax2 rfl rfl rfl ?_
          | refine o_field rfl rfl ?_
          | refine o_append rfl rfl rfl rfl ?_
          | refine o_extract rfl rfl ?_
          | refine o_lenc ?_
          | refine z_drawn0 env0_ok rfl rfl rfl ?_
          | refine o_bin (op := .add) rfl rfl rfl ?_
          | refine o_bin (op := .sub) rfl rfl rfl ?_
          | refine o_eqbt rfl rfl rfl ?_
          | refine o_eqbf rfl rfl rfl ?_
          | refine o_cmpt rfl rfl rfl ?_
          | refine o_cmpf rfl rfl rfl ?_)
        have hpos2 : decide ((((init.length + 1 + [rowP (at_, -1099511627776)].length : Nat) : Int)) > 0) = true := by simp; omega
        refine o_cmp rfl rfl rfl (fun _ => ?_) fun h => absurd hpos2 (by rw [h]; simp)
        repeat (first
          | refine z_seq ?_
          | refine z_region rfl ?_
          | refine o_nil ?_
          | refine u_seq ?_
          | refine u_blk ?_
          | refine z_block ?_
          | refine z_skip ?_
          | refine z_ct rfl ?_
          | refine z_cf rfl ?_
          | refine z_exit ?_
          | refine z_ret ?_
          | refine u_exit ?_
          | refine u_exit_seq ?_
          | refine u_exit_other rfl ?_
          | refine u_ret_seq ?_
          | refine u_ret_blk ?_
          | refine o_gy rfl ?_
          | refine o_gn rfl rfl ?_
          | refine o_gt rfl ?_
          | refine o_mov rfl ?_
          | refine o_load rfl rfl ?_
          | refine o_loadn rfl rfl rfl rfl ?_
          | refine o_store rfl rfl rfl rfl rfl rfl rfl ?_
          | refine o_faddrm rfl ?_
          | refine o_faddrv rfl rfl rfl ?_
          | refine o_idxarrm rfl rfl rfl ?_
          | refine o_alloc ?_
          | refine o_pickt rfl rfl ?_
          | refine o_pickf rfl rfl ?_
          | refine o_un rfl rfl ?_
          | refine o_len rfl rfl ?_
          | refine o_build rfl rfl ?_
          | refine o_bslice rfl rfl ?_
          | refine o_box rfl rfl ?_
          | refine o_minmax2 rfl rfl rfl ?_
          | refine o_field rfl rfl ?_
          | refine o_append rfl rfl rfl rfl ?_
          | refine o_extract rfl rfl ?_
          | refine o_lenc ?_
          | refine z_drawn0 env0_ok rfl rfl rfl ?_
          | refine o_bin (op := .add) rfl rfl rfl ?_
          | refine o_bin (op := .sub) rfl rfl rfl ?_
          | refine o_eqbt rfl rfl rfl ?_
          | refine o_eqbf rfl rfl rfl ?_
          | refine o_cmpt rfl rfl rfl ?_
          | refine o_cmpf rfl rfl rfl ?_)
        have hlen : init.length + 1 + 1 = (init ++ [(p, q)]).length + 1 := by simp
        have hcs : ((init.map rowP).flatten ++ [AV.int .i64 p, .int .i64 q]) ++ [rowP (at_, -1099511627776)].flatten = ((init ++ [(p, q)]).map rowP).flatten ++ [AV.int .i64 at_, .int .i64 (-1099511627776)] := by simp [rowP]
        refine u_end ⟨rfl, _, ?_, .some (init ++ [(p, q)]) at_ (-1099511627776) (if_pos ⟨rfl, hle⟩)⟩
        rw [← hlen, ← hcs]
        exact sub_ren [(0, 0, [.bool _, .bool _]), (1, 0, [.int .i64 _, .int .i64 _]), (2, 3, ((init.map rowP).flatten ++ [AV.int .i64 p, .int .i64 q]) ++ [rowP (at_, -1099511627776)].flatten)] rfl rfl (by simp) (.cons rfl rfl (ren_keep rfl) (.cons rfl rfl (ren_keep rfl) (.cons rfl rfl (ren_keep (hasML_append (hM2 init p q) rfl)) .nil))) (.cons rfl (.same rfl) (.cons rfl (.ms rfl) (.cons rfl (.mptr rfl) (.cons rfl (.mptr rfl) (.cons rfl (.same rfl) (.cons rfl (.same rfl) (.cons rfl (.same rfl) (.cons rfl (ren_eq (congrArg (AV.int .i64) (wrap_succ i (by omega))) rfl) .nil))))))))
      · have hle := of_decide_eq_false h
        repeat (first
          | refine z_seq ?_
          | refine z_region rfl ?_
          | refine o_nil ?_
          | refine u_seq ?_
          | refine u_blk ?_
          | refine z_block ?_
          | refine z_skip ?_
          | refine z_ct rfl ?_
          | refine z_cf rfl ?_
          | refine z_exit ?_
          | refine z_ret ?_
          | refine u_exit ?_
          | refine u_exit_seq ?_
          | refine u_exit_other rfl ?_
          | refine u_ret_seq ?_
          | refine u_ret_blk ?_
          | refine o_gy rfl ?_
          | refine o_gn rfl rfl ?_
          | refine o_gt rfl ?_
          | refine o_mov rfl ?_
          | refine o_load rfl rfl ?_
          | refine o_loadn rfl rfl rfl rfl ?_
          | refine o_store rfl rfl rfl rfl rfl rfl rfl ?_
          | refine o_faddrm rfl ?_
          | refine o_faddrv rfl rfl rfl ?_
          | refine o_idxarrm rfl rfl rfl ?_
          | refine o_alloc ?_
          | refine o_pickt rfl rfl ?_
          | refine o_pickf rfl rfl ?_
          | refine o_un rfl rfl ?_
          | refine o_len rfl rfl ?_
          | refine o_build rfl rfl ?_
          | refine o_bslice rfl rfl ?_
          | refine o_box rfl rfl ?_
          | refine o_minmax2 rfl rfl rfl ?_
          | refine o_field rfl rfl ?_
          | refine o_append rfl rfl rfl rfl ?_
          | refine o_extract rfl rfl ?_
          | refine o_lenc ?_
          | refine z_drawn0 env0_ok rfl rfl rfl ?_
          | refine o_bin (op := .add) rfl rfl rfl ?_
          | refine o_bin (op := .sub) rfl rfl rfl ?_
          | refine o_eqbt rfl rfl rfl ?_
          | refine o_eqbf rfl rfl rfl ?_
          | refine o_cmpt rfl rfl rfl ?_
          | refine o_cmpf rfl rfl rfl ?_)
        refine o_cmp rfl rfl rfl (fun _ => ?_) fun h => absurd hpos (by rw [h]; simp)
        repeat (first
          | refine z_seq ?_
          | refine z_region rfl ?_
          | refine o_nil ?_
          | refine u_seq ?_
          | refine u_blk ?_
          | refine z_block ?_
          | refine z_skip ?_
          | refine z_ct rfl ?_
          | refine z_cf rfl ?_
          | refine z_exit ?_
          | refine z_ret ?_
          | refine u_exit ?_
          | refine u_exit_seq ?_
          | refine u_exit_other rfl ?_
          | refine u_ret_seq ?_
          | refine u_ret_blk ?_
          | refine o_gy rfl ?_
          | refine o_gn rfl rfl ?_
          | refine o_gt rfl ?_
          | refine o_mov rfl ?_
          | refine o_load rfl rfl ?_
          | refine o_loadn rfl rfl rfl rfl ?_
          | refine o_store rfl rfl rfl rfl rfl rfl rfl ?_
          | refine o_faddrm rfl ?_
          | refine o_faddrv rfl rfl rfl ?_
          | refine o_idxarrm rfl rfl rfl ?_
          | refine o_alloc ?_
          | refine o_pickt rfl rfl ?_
          | refine o_pickf rfl rfl ?_
          | refine o_un rfl rfl ?_
          | refine o_len rfl rfl ?_
          | refine o_build rfl rfl ?_
          | refine o_bslice rfl rfl ?_
          | refine o_box rfl rfl ?_
          | refine o_minmax2 rfl rfl rfl ?_
          | refine o_field rfl rfl ?_
          | refine o_append rfl rfl rfl rfl ?_
          | refine o_extract rfl rfl ?_
          | refine o_lenc ?_
          | refine z_drawn0 env0_ok rfl rfl rfl ?_
          | refine o_bin (op := .add) rfl rfl rfl ?_
          | refine o_bin (op := .sub) rfl rfl rfl ?_
          | refine o_eqbt rfl rfl rfl ?_
          | refine o_eqbf rfl rfl rfl ?_
          | refine o_cmpt rfl rfl rfl ?_
          | refine o_cmpf rfl rfl rfl ?_)
        exact u_end ⟨rfl, _, sub_ren [(0, 0, [.bool _, .bool _]), (1, 0, [.int .i64 _, .int .i64 _]), (2, 0, (init.map rowP).flatten ++ [.int .i64 p, .int .i64 q])] rfl rfl (by simp) (.cons rfl rfl (ren_keep rfl) (.cons rfl rfl (ren_keep rfl) (.cons rfl rfl (ren_keep (hM2 init p q)) .nil))) (.cons rfl (.same rfl) (.cons rfl (.ms rfl) (.cons rfl (.mptr rfl) (.cons rfl (.mptr rfl) (.cons rfl (.same rfl) (.cons rfl (.same rfl) (.cons rfl (.same rfl) (.cons rfl (ren_eq (congrArg (AV.int .i64) (wrap_succ i (by omega))) rfl) .nil)))))))), .some init p q (if_neg fun x => hle x.2)⟩

end Go.Proofs.Ytofkihmckookjaa
