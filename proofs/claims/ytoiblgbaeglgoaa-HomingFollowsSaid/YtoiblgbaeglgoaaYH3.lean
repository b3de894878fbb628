/-
  THE STROKES THAT ARE PERMITTED: homing.bits, homing.moves, homing.Permitted.
-/
import Derived.Test.YtoiblgbaeglgoaaYH2
import Derived.Test.YtoiblgbaeglgoaaYS1
namespace Go.Proofs.Ytoiblgbaeglgoaa
open Go Go.Am

theorem bit_all : ∀ e ∈ allE, ∀ i ∈ [0, 1, 2, 3], i < e.length → (((idxE e : Nat) : Int).fdiv (2 ^ (min i 64)) = ((idxE e / 2 ^ i : Nat) : Int)) ∧ IntKind.i64.wrap (BitVec.ofInt 64 ((idxE e / 2 ^ i : Nat) : Int) &&& BitVec.ofInt 64 1).toNat = (if e.getD i false then (1 : Int) else 0) := by decide +kernel

section
variable {e : List Bool} (h1 : 1 ≤ e.length) (h4 : e.length ≤ 4) {i : Nat} (hi : i < e.length)
include h1 h4 hi

theorem bit_i : (((idxE e : Nat) : Int).fdiv (2 ^ (min i 64)) = ((idxE e / 2 ^ i : Nat) : Int)) ∧ IntKind.i64.wrap (BitVec.ofInt 64 ((idxE e / 2 ^ i : Nat) : Int) &&& BitVec.ofInt 64 1).toNat = (if e.getD i false then (1 : Int) else 0) :=
  bit_all e (allE_mem e h1 h4) i (by rcases (show i = 0 ∨ i = 1 ∨ i = 2 ∨ i = 3 by omega) with rfl | rfl | rfl | rfl <;> simp) hi

theorem shrE : Am.binOp .shr (.int .i64 (idxE e : Nat)) (.int .i64 (i : Nat)) = some (.int .i64 (idxE e / 2 ^ i : Nat)) := by
  have h := (bit_i h1 h4 hi).1
  have hn : ¬ ((i : Nat) : Int) < 0 := by omega
  show (if ((i : Nat) : Int) < 0 then none else some (AV.int .i64 (((idxE e : Nat) : Int).fdiv (2 ^ (min ((i : Nat) : Int).toNat 64))))) = _
  rw [if_neg hn, Int.toNat_natCast, h]

theorem andE : Am.binOp .and (.int .i64 (idxE e / 2 ^ i : Nat)) (.int .i64 1) = some (.int .i64 (if e.getD i false then (1 : Int) else 0)) :=
  congrArg (fun z => some (AV.int .i64 z)) (bit_i h1 h4 hi).2

end

theorem eqE (b : Bool) : Am.binOp .eql (.int .i64 (if b then (1 : Int) else 0)) (.int .i64 1) = some (.bool b) := by cases b <;> rfl

-- pneumatic/homing.bits
def ic106 : IC := .seq (.region [⟨(some 2), .box (.t 0), none⟩,
    ⟨(some 3), .box (.t 1), none⟩,
    ⟨(some 4), .mov (.c (.nilf)), none⟩] none)
  (.seq (.region [⟨(some 5), .mkfn 144 [] [(.t 2), (.t 3)], none⟩,
    ⟨(some 4), .mov (.t 5), none⟩] none)
  (.ret))
theorem fn106 : env0.fn 106 = some ⟨6, ic106, [.t 4]⟩ := by kernel_rfl

theorem bits106 (n k : Int) : PF Try.prog 106 [.int .i64 n, .int .i64 k] (.fn 144 [] [.vptr [.int .i64 n], .vptr [.int .i64 k]]) := by
  refine PF_of_Z env0_ok fn106 [(0, .int .i64 n), (1, .int .i64 k)] (by show 2 ≤ 6; decide) rfl fun w0 N0 => ?_
  unfold ic106
  repeat (first | refine z_seq ?_ | refine z_region rfl ?_ | refine o_nil ?_ | refine u_seq ?_ | refine z_ret ?_ | refine o_mov rfl ?_ | refine o_box rfl rfl ?_ | refine o_mkfn rfl rfl ?_)
  exact u_end ⟨.inr rfl, _, rfl, rfl⟩

def b144_0 : IC := .seq (.region [⟨(some 7), .bin .lss (.t 6) (.t 5), none⟩] none)
  (.seq (.cond (.t 7) (.skip)
  (.exit 0))
  (.seq (.block 1 (.seq (.region [⟨(some 8), .mov (.t 6), none⟩,
    ⟨(some 4), .mov (.t 8), none⟩] none)
  (.seq (.region [⟨(some 9), .mov (.t 0), none⟩,
    ⟨(some 10), .mov (.t 4), none⟩,
    ⟨(some 11), .load none (.t 2), none⟩,
    ⟨(some 12), .mov (.t 4), none⟩,
    ⟨(some 13), .bin .shr (.t 11) (.t 12), none⟩,
    ⟨(some 14), .bin .and (.t 13) (.c (.int .i64 1)), none⟩,
    ⟨(some 15), .bin .eql (.t 14) (.c (.int .i64 1)), none⟩,
    ⟨(some 16), .call (.t 9) [(.t 10), (.t 15)], none⟩,
    ⟨(some 17), .un .not (.t 16), none⟩] none)
  (.cond (.t 17) (.ret)
  (.skip)))))
  (.region [⟨(some 18), .bin .add (.t 6) (.c (.int .i64 1)), none⟩,
    ⟨(some 6), .mov (.t 18), none⟩] none)))

-- pneumatic/homing.bits$1
def ic144 : IC := .seq (.region [⟨(some 5), .load none (.t 1), none⟩,
    ⟨(some 6), .mov (.c (.int .i64 0)), none⟩] none)
  (.block 0 (.loop b144_0))
theorem fn144 : env0.fn 144 = some ⟨19, ic144, []⟩ := by kernel_rfl

set_option maxHeartbeats 2000000 in
theorem range144 {w0 : World} {N0 id sp : Nat} {M : Nat → Prop} {I : Nat → HS → Prop} {e : List Bool} (h1 : 1 ≤ e.length) (h4 : e.length ≤ 4)
    (hy : ∀ i H, i < e.length → I i H → CT Try.prog w0 N0 (.yield id sp) [.int .i64 (i : Nat), .bool (e.getD i false)] H fun v H' => v = .bool true ∧ Keep M H H' ∧ I (i + 1) H') (H : HS) (hI : I 0 H) :
    FT Try.prog w0 N0 144 [.yield id sp, .vptr [.int .i64 (e.length : Nat)], .vptr [.int .i64 (idxE e : Nat)]] H fun _ H' => Keep M H H' ∧ I e.length H' := by
  refine FT_of_Z env0_ok fn144 [(0, .yield id sp), (1, .vptr [.int .i64 (e.length : Nat)]), (2, .vptr [.int .i64 (idxE e : Nat)])] (by show 3 ≤ 19; decide) rfl ?_
  unfold ic144
  repeat (first | refine z_seq ?_ | refine z_region rfl ?_ | refine o_nil ?_ | refine u_seq ?_ | refine z_block ?_ | refine o_mov rfl ?_ | refine o_load rfl rfl ?_)
  refine z_loop (fun m S => ∃ i H', m = e.length - i ∧ i ≤ e.length ∧ I i H' ∧ Keep M H H' ∧
      S = st 19 [(0, .yield id sp), (2, .vptr [.int .i64 (idxE e : Nat)]), (5, .int .i64 (e.length : Nat)), (6, .int .i64 (i : Nat))] H'.heap H'.next H'.clk) e.length
    (sub_keep (.cons rfl (.cons rfl (.cons rfl (.cons rfl .nil))))) ⟨0, H, rfl, Nat.zero_le _, hI, Keep.refl M H, rfl⟩ ?_
  rintro m S ⟨i, H', rfl, hi, hI', hK', rfl⟩
  unfold b144_0
  repeat (first | refine z_seq ?_ | refine z_region rfl ?_)
  refine o_cmp rfl rfl rfl (fun h3 => ?_) fun h3 => ?_
  · have hlt : i < e.length := by
      have := of_decide_eq_true h3
      omega
    repeat (first | refine z_seq ?_ | refine z_region rfl ?_ | refine o_nil ?_ | refine u_seq ?_ | refine z_block ?_ | refine z_skip ?_ | refine z_ct rfl ?_ | refine o_mov rfl ?_ | refine o_load rfl rfl ?_)
    refine o_bin (op := .shr) rfl rfl (shrE h1 h4 hlt) ?_
    refine o_bin (op := .and) rfl rfl (andE h1 h4 hlt) ?_
    refine o_bin (op := .eql) rfl rfl (eqE _) ?_
    refine o_ct _ rfl rfl (hy i H' hlt hI') (fun _ _ _ _ hm => absurd hm List.not_mem_nil) fun v2 H3 hF3 => ?_
    obtain ⟨rfl, hK3, hI3⟩ := hF3
    repeat (first | refine z_region rfl ?_ | refine o_nil ?_ | refine u_seq ?_ | refine u_blk ?_ | refine z_skip ?_ | refine z_cf rfl ?_ | refine o_mov rfl ?_ | refine o_un rfl rfl ?_ | refine o_bin (op := .add) rfl rfl rfl ?_)
    rw [wrap_succ i (by omega)]
    exact u_round (show e.length - (i + 1) < e.length - i by omega) (sub_keep (.cons rfl (.cons rfl (.cons rfl (.cons rfl .nil))))) ⟨i + 1, H3, rfl, hlt, hI3, hK'.trans hK3, rfl⟩
  · have hi2 : i = e.length := by
      have := of_decide_eq_false h3
      omega
    subst hi2
    repeat (first | refine z_seq ?_ | refine o_nil ?_ | refine u_seq ?_ | refine z_cf rfl ?_ | refine z_exit ?_ | refine u_exit_seq ?_)
    refine u_out ?_
    repeat (first | refine u_exit ?_)
    exact u_end ⟨.inl rfl, _, rfl, hK', hI'⟩

def movesT (l : List Ex) (e : List Bool) (m : Nat) : List Sk := ((List.range m).filter fun i => mayB l e i).map fun i => ⟨(i : Nat), !(e.getD i false)⟩

def movesL (l : List Ex) (e : List Bool) : List Sk := movesT l e e.length

theorem movesT_succ (l : List Ex) (e : List Bool) (m : Nat) : movesT l e (m + 1) = movesT l e m ++ (if mayB l e m then [⟨(m : Nat), !(e.getD m false)⟩] else []) := by
  unfold movesT
  rw [List.range_succ, List.filter_append, List.map_append]
  congr 1
  simp only [List.filter_cons, List.filter_nil]
  split <;> rfl

theorem movesT_len (l : List Ex) (e : List Bool) (m : Nat) : (movesT l e m).length ≤ m := by
  unfold movesT
  rw [List.length_map]
  have := List.length_filter_le (fun i => mayB l e i) (List.range m)
  rwa [List.length_range] at this

theorem cSs_snoc (a : List Sk) (s : Sk) : (cSs (a ++ [s])).flatten = (cSs a).flatten ++ [.int .i64 s.a, .bool s.o] := by
  simp [cSs, cS]

theorem cSs_flat_len (a : List Sk) : (cSs a).flatten.length = a.length * 2 := by
  induction a with
  | nil => rfl
  | cons s a ih =>
    have : (cSs (s :: a)).flatten = [.int .i64 s.a, .bool s.o] ++ (cSs a).flatten := rfl
    rw [this, List.length_append, ih, List.length_cons]
    show 2 + a.length * 2 = (a.length + 1) * 2
    omega

theorem view_cSs {S : AS} {d id sp : Nat} {cap : Option Nat} (a : List Sk) (hl : Am.look id S.heap = some (sp, .cells (cSs a).flatten)) : S.view (d + 1) (.ms id sp 2 0 a.length cap) = .vs (cSs a) := by
  have e : S.elems 2 (.ms id sp 2 0 a.length cap) = some (cSs a) := by
    obtain ⟨n, t, hp, nx, ck, mk⟩ := S
    exact elems_ms (ys := []) (cap := cap) (n := n) (nx := nx) (ck := ck) (mk := mk) (l := []) (hp := hp) (by rw [List.append_nil]; exact hl) (cSs_length a) (fun x hx => by obtain ⟨s, _, rfl⟩ := List.mem_map.1 hx; rfl)
  simp only [AS.view, e]
  congr 1
  unfold cSs
  rw [List.map_map]
  apply List.map_congr_left
  intro s _
  cases d <;> rfl

noncomputable def ca101_0 : Code := match env0.fn 101 with
  | some i => ((rangesOf i.ic)[0]?.getD (.skip, .skip)).1
  | none => .skip

noncomputable def cb101_0 : Code := match env0.fn 101 with
  | some i => ((rangesOf i.ic)[0]?.getD (.skip, .skip)).2
  | none => .skip

def asg101_0 : IC := .seq (.region [⟨(some 8), .mov (.t 13), none⟩] none)
  (.region [⟨(some 9), .mov (.t 14), none⟩] none)

def rb101_0 : IC := .block 1 (.seq (.region [⟨(some 15), .load (some 1) (.t 3), none⟩,
    ⟨(some 16), .load none (.t 4), none⟩,
    ⟨(some 17), .load none (.t 5), none⟩,
    ⟨(some 18), .mov (.t 8), none⟩,
    ⟨(some 19), .call (.c (.fn 104 [] [])) [(.t 15), (.t 16), (.t 17), (.t 18)], none⟩] none)
  (.cond (.t 19) (.region [⟨(some 20), .load none (.t 7), none⟩,
    ⟨(some 21), .mov (.t 8), none⟩,
    ⟨(some 22), .mov (.t 9), none⟩,
    ⟨(some 23), .un .not (.t 22), none⟩,
    ⟨(some 24), .build [.int .i64 0, .bool false] [(0, 1, (.t 21)), (1, 1, (.t 23))], none⟩,
    ⟨(some 25), .bslice 2 1 [.int .i64 0, .bool false] [(0, 2, (.t 24))], none⟩,
    ⟨(some 26), .append 2 16 [.int .i64 0, .bool false] (.t 20) (.t 25), none⟩,
    ⟨none, .store 1 (.t 7) (.t 26), none⟩] none)
  (.skip)))

-- pneumatic/homing.moves
noncomputable def ic101 : IC := .seq (.region [⟨(some 3), .box (.t 0), none⟩,
    ⟨(some 4), .box (.t 1), none⟩,
    ⟨(some 5), .box (.t 2), none⟩,
    ⟨(some 6), .mov (.c (.nils)), none⟩] none)
  (.seq (.region [⟨(some 7), .alloc [.nils], none⟩] none)
  (.seq (.seq (.region [⟨(some 10), .load none (.t 4), none⟩,
    ⟨(some 11), .load none (.t 5), none⟩,
    ⟨(some 12), .call (.c (.fn 106 [] [])) [(.t 10), (.t 11)], none⟩] none)
  (.block 0 (.rangeFunc (.t 12) [13, 14] ca101_0 cb101_0 asg101_0 rb101_0)))
  (.seq (.region [⟨(some 27), .load none (.t 7), none⟩,
    ⟨(some 6), .mov (.t 27), none⟩] none)
  (.ret))))
theorem fn101 : env0.fn 101 = some ⟨28, ic101, [.t 6]⟩ := by kernel_rfl

structure I101 (l : List Ex) (e : List Bool) (ltm : List (Nat × AV)) (i : Nat) (H : HS) : Prop where
  nx : 4 ≤ H.next
  h3 : Am.look 3 H.heap = some (2, .loop .ready none 28 (tmOf ltm) [13, 14] ca101_0 cb101_0 (2, 1))
  h2 : Am.look 2 H.heap = some (1, .deferred)
  h0 : ∃ sp, Am.look 0 H.heap = some (0, .cells [.ms 1 sp 2 0 (movesT l e i).length none]) ∧ Am.look 1 H.heap = some (sp, .cells (cSs (movesT l e i)).flatten)

def l101 (l : List Ex) (e : List Bool) : List (Nat × AV) := [(3, .vptr [.vs (cXs l)]), (4, .vptr [.int .i64 (e.length : Nat)]), (5, .vptr [.int .i64 (idxE e : Nat)]), (7, .mptr 0 0 0), (12, .fn 144 [] [.vptr [.int .i64 (e.length : Nat)], .vptr [.int .i64 (idxE e : Nat)]])]

set_option maxHeartbeats 2000000 in
theorem yield101 {w0 : World} {N0 : Nat} {l : List Ex} (hsl : ∀ y ∈ l, Slim y) {e : List Bool} (h1 : 1 ≤ e.length) (h4 : e.length ≤ 4) (hg : guardC l e.length = 0) (ha : Com Try.prog ca101_0 asg101_0) (hb : Com Try.prog cb101_0 rb101_0) (i : Nat) (H : HS) (hi : i < e.length) (h : I101 l e (l101 l e) i H) :
    CT Try.prog w0 N0 (.yield 3 2) [.int .i64 (i : Nat), .bool (e.getD i false)] H fun v H' => v = .bool true ∧ Keep (fun j => j < 4) H H' ∧ I101 l e (l101 l e) (i + 1) H' := by
  obtain ⟨nx, h3, h2, sp, h0, h1'⟩ := h
  have hmay := may104 l hsl e h1 h4 hg i hi
  have hml := movesT_len l e i
  have hsc := movesT_succ l e i
  refine ct_yield (l0 := (14, .bool (e.getD i false)) :: (13, .int .i64 (i : Nat)) :: l101 l e) h3 ha hb rfl (by decide) rfl ?_
  unfold asg101_0
  repeat (first | refine z_seq ?_ | refine z_region rfl ?_ | refine o_nil ?_ | refine u_seq ?_ | refine o_mov rfl ?_)
  refine u_end ⟨rfl, _, rfl, ?_⟩
  unfold rb101_0 l101
  repeat (first | refine z_seq ?_ | refine z_region rfl ?_ | refine z_block ?_ | refine o_mov rfl ?_ | refine o_load rfl rfl ?_ | refine o_loadn rfl rfl rfl rfl ?_)
  refine o_call rfl rfl hmay (fun h => Bool.noConfusion (show false = true from h)) ?_
  cases hbm : mayB l e i with
  | true =>
    rw [hbm, if_pos rfl] at hsc
    repeat (first | refine z_region rfl ?_ | refine o_nil ?_ | refine u_seq ?_ | refine z_ct rfl ?_)
    refine o_loadm (sp := 0) rfl (by (repeat (first | rw [look_putl, if_pos rfl] | rw [look_putl, if_neg (by decide)] | rw [look_dropl, if_neg (by decide)])); first | rfl | assumption) (by omega) rfl ?_
    repeat (first | refine o_mov rfl ?_ | refine o_un rfl rfl ?_ | refine o_build rfl rfl ?_)
    refine o_fsl [[.int .i64 (i : Nat), .bool (!(e.getD i false))]] rfl rfl rfl rfl ?_
    refine o_append_ms [[.int .i64 (i : Nat), .bool (!(e.getD i false))]] rfl rfl rfl (fun h => Nat.noConfusion h) rfl (by decide) (by (repeat (first | rw [look_putl, if_pos rfl] | rw [look_putl, if_neg (by decide)] | rw [look_dropl, if_neg (by decide)])); first | rfl | assumption) (cSs_flat_len _).symm (by show _ + 1 ≤ _; omega) ?_
    refine o_store (sp := 0) rfl rfl rfl rfl (by (repeat (first | rw [look_putl, if_pos rfl] | rw [look_putl, if_neg (by decide)] | rw [look_dropl, if_neg (by decide)])); first | rfl | assumption) rfl rfl ?_
    repeat (first | refine o_nil ?_ | refine u_blk ?_)
    refine u_end ⟨28, tmOf (l101 l e), [13, 14], ca101_0, cb101_0, (2, 1), ?_, none, rfl, rfl, ⟨Nat.le_refl _, Nat.le_succ _, fun j hj _ => ?_⟩, nx, ?_, ?_, H.clk, ?_, ?_⟩
    · show Am.look 3 (putl 0 _ (putl 1 _ (putl 3 _ H.heap))) = _
      exact (by (repeat (first | rw [look_putl, if_pos rfl] | rw [look_putl, if_neg (by decide)] | rw [look_dropl, if_neg (by decide)])); first | rfl | assumption)
    · show Am.look j (putl 3 _ (putl 0 _ (putl 1 _ (putl 3 _ H.heap)))) = _
      rw [look_putl, if_neg (by omega), look_putl, if_neg (by omega), look_putl, if_neg (by omega), look_putl, if_neg (by omega)]
    · show Am.look 3 (putl 3 _ _) = _
      rw [look_putl, if_pos rfl]; rfl
    · show Am.look 2 (putl 3 _ (putl 0 _ (putl 1 _ (putl 3 _ H.heap)))) = _
      exact (by (repeat (first | rw [look_putl, if_pos rfl] | rw [look_putl, if_neg (by decide)] | rw [look_dropl, if_neg (by decide)])); first | rfl | assumption)
    · show Am.look 0 (putl 3 _ (putl 0 _ (putl 1 _ (putl 3 _ H.heap)))) = _
      rw [hsc, List.length_append]
      exact (by (repeat (first | rw [look_putl, if_pos rfl] | rw [look_putl, if_neg (by decide)] | rw [look_dropl, if_neg (by decide)])); first | rfl | assumption)
    · show Am.look 1 (putl 3 _ (putl 0 _ (putl 1 _ (putl 3 _ H.heap)))) = _
      rw [hsc, cSs_snoc]
      exact (by (repeat (first | rw [look_putl, if_pos rfl] | rw [look_putl, if_neg (by decide)] | rw [look_dropl, if_neg (by decide)])); first | rfl | assumption)
  | false =>
    rw [hbm, if_neg (by simp), List.append_nil] at hsc
    repeat (first | refine o_nil ?_ | refine u_seq ?_ | refine u_blk ?_ | refine z_skip ?_ | refine z_cf rfl ?_)
    refine u_end ⟨28, tmOf (l101 l e), [13, 14], ca101_0, cb101_0, (2, 1), ?_, none, rfl, rfl, ⟨Nat.le_refl _, Nat.le_refl _, fun j hj _ => ?_⟩, nx, ?_, ?_, sp, ?_, ?_⟩
    · show Am.look 3 (putl 3 _ H.heap) = _
      exact (by (repeat (first | rw [look_putl, if_pos rfl] | rw [look_putl, if_neg (by decide)] | rw [look_dropl, if_neg (by decide)])); first | rfl | assumption)
    · show Am.look j (putl 3 _ (putl 3 _ H.heap)) = _
      rw [look_putl, if_neg (by omega), look_putl, if_neg (by omega)]
    · show Am.look 3 (putl 3 _ _) = _
      rw [look_putl, if_pos rfl]; rfl
    · show Am.look 2 (putl 3 _ (putl 3 _ H.heap)) = _
      exact (by (repeat (first | rw [look_putl, if_pos rfl] | rw [look_putl, if_neg (by decide)] | rw [look_dropl, if_neg (by decide)])); first | rfl | assumption)
    · show Am.look 0 (putl 3 _ (putl 3 _ H.heap)) = _
      rw [hsc]
      exact (by (repeat (first | rw [look_putl, if_pos rfl] | rw [look_putl, if_neg (by decide)] | rw [look_dropl, if_neg (by decide)])); first | rfl | assumption)
    · show Am.look 1 (putl 3 _ (putl 3 _ H.heap)) = _
      rw [hsc]
      exact (by (repeat (first | rw [look_putl, if_pos rfl] | rw [look_putl, if_neg (by decide)] | rw [look_dropl, if_neg (by decide)])); first | rfl | assumption)

set_option maxHeartbeats 2000000 in
theorem moves101 (l : List Ex) (hsl : ∀ y ∈ l, Slim y) (e : List Bool) (h1 : 1 ≤ e.length) (h4 : e.length ≤ 4) (hg : guardC l e.length = 0) :
    PF Try.prog 101 [.agg [.vs (cXs l)], .int .i64 (e.length : Nat), .int .i64 (idxE e : Nat)] (.vs (cSs (movesL l e))) := by
  refine PF_of_Z env0_ok fn101 [(0, .agg [.vs (cXs l)]), (1, .int .i64 (e.length : Nat)), (2, .int .i64 (idxE e : Nat))] (by show 3 ≤ 28; decide) rfl fun w0 N0 => ?_
  unfold ic101
  repeat (first | refine z_seq ?_ | refine z_region rfl ?_ | refine o_nil ?_ | refine u_seq ?_ | refine o_mov rfl ?_ | refine o_load rfl rfl ?_ | refine o_alloc ?_ | refine o_box rfl rfl ?_)
  refine o_call rfl rfl (bits106 _ _) (fun h => Bool.noConfusion (show false = true from h)) ?_
  refine o_nil (u_seq (z_block ?_))
  refine z_renw [(some (3, 3), [.ms 1 0 2 0 0 none]), (none, [])] [(0, 0, [.vs (cXs l)]), (1, 1, [.int .i64 (e.length : Nat)]), (2, 2, [.int .i64 (idxE e : Nat)])] (l101 l e) rfl (.cons rfl rfl (.cons rfl rfl (.cons rfl rfl .nil))) (.cons rfl (.cons (.grow rfl) .nil) (.new .nil)) (.cons rfl (.fptr rfl rfl) (.cons rfl (.fptr rfl rfl) (.cons rfl (.fptr rfl rfl) (.cons rfl (.mptr rfl) (.cons rfl (.same rfl) .nil))))) ?_
  refine z_range (.inl rfl) rfl fun ha hb => (range144 h1 h4 (fun i H hi h => yield101 hsl h1 h4 hg ha hb i H hi h) ⟨_, _, _⟩ ⟨Nat.le_refl _, rfl, rfl, 0, rfl, rfl⟩).mono fun v H2 hF => ?_
  obtain ⟨hK, nx, h3, h2, sp, h0, h1'⟩ := hF
  refine ⟨_, _, .normal, _, _, _, _, _, _, h3, by simp, rfl, fun z hz => ?_, ?_⟩
  · obtain rfl := List.mem_singleton.1 hz
    exact (by (repeat (first | rw [look_putl, if_pos rfl] | rw [look_putl, if_neg (by decide)] | rw [look_dropl, if_neg (by decide)])); first | rfl | assumption)
  · repeat (first | refine z_seq ?_ | refine u_seq ?_ | refine u_blk ?_ | refine z_region rfl ?_)
    refine o_loadm (sp := 0) rfl (by (repeat (first | rw [look_putl, if_pos rfl] | rw [look_putl, if_neg (by decide)] | rw [look_dropl, if_neg (by decide)])); first | rfl | assumption) (by omega) rfl ?_
    repeat (first | refine o_nil ?_ | refine u_seq ?_ | refine z_ret ?_ | refine o_mov rfl ?_)
    refine u_end ⟨.inr rfl, _, rfl, view_cSs (d := 3) (movesL l e) ?_⟩
    show Am.look 1 (dropl 2 (dropl 3 H2.heap)) = _
    exact (by (repeat (first | rw [look_putl, if_pos rfl] | rw [look_putl, if_neg (by decide)] | rw [look_dropl, if_neg (by decide)])); first | rfl | assumption)

end Go.Proofs.Ytoiblgbaeglgoaa
