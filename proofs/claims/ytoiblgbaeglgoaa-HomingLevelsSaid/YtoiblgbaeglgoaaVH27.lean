/-
  THE POSITIONS THAT ARE LOST: the reference's Lost; lists of ends compared.
-/
import Derived.Test.YtoiblgbaeglgoaaVH26
namespace Go.Proofs.Ytoiblgbaeglgoaa
open Go Go.Am

def vsL (a : List (List Bool)) : AV := .vs (a.map fun e => [vsB e])

def rowB (a : List (List Bool)) : List AV := a.map vsB

theorem vsL_row (a : List (List Bool)) : vsL a = .vs ((rowB a).map fun v => [v]) := by
  unfold vsL rowB
  rw [List.map_map]
  rfl

theorem rowB_hasM : ∀ a : List (List Bool), hasM.hasML (rowB a) = false
  | [] => rfl
  | p :: a => by
    have := rowB_hasM a
    show (hasM (vsB p) || hasM.hasML (rowB a)) = false
    rw [this]
    rfl

theorem view_rowB {S : AS} {d id sp : Nat} {cap : Option Nat} (out : List (List Bool)) (hl : Am.look id S.heap = some (sp, .cells (rowB out))) : S.view (d + 1) (.ms id sp 1 0 out.length cap) = vsL out := by
  have hf : rowB out = ((rowB out).map fun v => ([v] : List AV)).flatten := by
    clear hl
    generalize rowB out = l
    induction l with
    | nil => rfl
    | cons b l ih => simpa using ih
  have hs : ∀ x ∈ (rowB out).map (fun v => ([v] : List AV)), x.length = 1 := fun x hx => by obtain ⟨v, _, rfl⟩ := List.mem_map.1 hx; rfl
  have e : S.elems 1 (.ms id sp 1 0 out.length cap) = some ((rowB out).map fun v => [v]) := by
    simp only [AS.elems, hl]
    have hlen : (rowB out).length = out.length := List.length_map ..
    rw [if_pos ⟨trivial, trivial, by omega⟩, List.drop_zero]
    conv => lhs; rw [hf]
    have := chunk_flat hs
    rw [List.length_map, hlen] at this
    rw [this]
  simp only [AS.view, e]
  rw [vsL_row]
  congr 1
  rw [List.map_map]
  apply List.map_congr_left
  intro v hv
  obtain ⟨p, _, rfl⟩ := List.mem_map.1 hv
  cases d <;> rfl

def b59_0 : IC := .seq (.seq (.region [⟨(some 11), .mov (.t 5), none⟩,
    ⟨(some 12), .mov (.t 0), none⟩,
    ⟨(some 13), .len false (.t 12), none⟩,
    ⟨(some 14), .bin .lss (.t 11) (.t 13), none⟩] none)
  (.cond (.t 14) (.skip)
  (.exit 0)))
  (.seq (.block 1 (.seq (.region [⟨(some 17), .mov (.t 0), none⟩,
    ⟨(some 18), .mov (.t 5), none⟩,
    ⟨(some 19), .idxs 1 (.t 17) (.t 18), none⟩,
    ⟨(some 20), .load none (.t 19), none⟩,
    ⟨(some 21), .mov (.t 1), none⟩,
    ⟨(some 22), .mov (.t 5), none⟩,
    ⟨(some 23), .idxs 1 (.t 21) (.t 22), none⟩,
    ⟨(some 24), .load none (.t 23), none⟩,
    ⟨(some 25), .eqb true (.t 20) (.t 24), none⟩] (some [[], [], [0, 1], [2], [], [], [4, 5], [6], [3, 7]]))
  (.cond (.t 25) (.seq (.region [⟨(some 4), .mov (.c (.bool false)), none⟩] none)
  (.ret))
  (.skip))))
  (.region [⟨(some 15), .mov (.t 5), none⟩,
    ⟨(some 16), .bin .add (.t 15) (.c (.int .i64 1)), none⟩,
    ⟨(some 5), .mov (.t 16), none⟩] none))

-- pneumatic/pneumaticref13.SameEnds
def ic59 : IC := .seq (.region [⟨(some 4), .mov (.c (.bool false)), none⟩] none)
  (.seq (.seq (.region [⟨(some 6), .mov (.t 0), none⟩,
    ⟨(some 7), .len false (.t 6), none⟩,
    ⟨(some 8), .mov (.t 1), none⟩,
    ⟨(some 9), .len false (.t 8), none⟩,
    ⟨(some 10), .bin .neq (.t 7) (.t 9), none⟩] none)
  (.cond (.t 10) (.seq (.region [⟨(some 4), .mov (.c (.bool false)), none⟩] none)
  (.ret))
  (.skip)))
  (.seq (.seq (.region [⟨(some 5), .mov (.c (.int .i64 0)), none⟩] none)
  (.block 0 (.loop b59_0)))
  (.seq (.region [⟨(some 4), .mov (.c (.bool true)), none⟩] none)
  (.ret))))
theorem fn59 : env0.fn 59 = some ⟨26, ic59, [.t 4]⟩ := by kernel_rfl

theorem same59 (e : List Bool) (he : e.length ≤ 100000) : PF Try.prog 59 [vsB e, vsB e] (.bool true) := by
  have hel : (e.map fun b => ([.bool b] : List AV)).length = e.length := List.length_map ..
  refine PF_of_Z env0_ok fn59 [(0, vsB e), (1, vsB e)] (by show 2 ≤ 26; decide) rfl fun w0 N0 => ?_
  unfold ic59
  repeat (first | refine z_seq ?_ | refine z_region rfl ?_ | refine o_nil ?_ | refine u_seq ?_ | refine o_mov rfl ?_ | refine o_len rfl rfl ?_)
  refine o_cmp rfl rfl rfl (fun h => absurd h (by simp)) fun _ => ?_
  repeat (first | refine z_seq ?_ | refine z_region rfl ?_ | refine o_nil ?_ | refine u_seq ?_ | refine z_block ?_ | refine z_skip ?_ | refine z_cf rfl ?_ | refine o_mov rfl ?_)
  refine z_loop (fun mm S => ∃ i, mm = e.length - i ∧ i ≤ e.length ∧ S = st 26 [(0, vsB e), (1, vsB e), (5, .int .i64 (i : Nat))] [] 0 1) e.length
    (sub_ren0 (l' := [(0, vsB e), (1, vsB e), (5, .int .i64 ((0 : Nat) : Int))]) (.cons rfl (.same rfl) (.cons rfl (.same rfl) (.cons rfl (.same rfl) .nil)))) ⟨0, rfl, Nat.zero_le _, rfl⟩ ?_
  rintro mm S ⟨i, rfl, hi, rfl⟩
  unfold b59_0
  repeat (first | refine z_seq ?_ | refine z_region rfl ?_ | refine o_mov rfl ?_ | refine o_len rfl rfl ?_)
  rw [hel]
  refine o_cmp rfl rfl rfl (fun h3 => ?_) fun h3 => ?_
  · have hlt : i < e.length := by have := of_decide_eq_true h3; omega
    have hbg := bool_get hlt
    repeat (first | refine z_seq ?_ | refine o_nil ?_ | refine u_seq ?_ | refine z_block ?_ | refine z_skip ?_ | refine z_ct rfl ?_ | refine o_mov rfl ?_ | refine o_load rfl rfl ?_ | refine z_drawn0 env0_ok rfl rfl rfl ?_ | refine o_idxs rfl rfl (by omega) (by assumption) rfl ?_)
    refine o_eqb rfl rfl (fun h => absurd h (by simp)) fun _ => ?_
    repeat (first | refine z_region rfl ?_ | refine o_nil ?_ | refine u_seq ?_ | refine u_blk ?_ | refine z_skip ?_ | refine z_cf rfl ?_ | refine o_mov rfl ?_ | refine o_bin (op := .add) rfl rfl rfl ?_)
    rw [wrap_succ i (by omega)]
    exact u_round (show e.length - (i + 1) < e.length - i by omega) (sub_ren0 (l' := [(0, vsB e), (1, vsB e), (5, .int .i64 ((i + 1 : Nat) : Int))]) (.cons rfl (.same rfl) (.cons rfl (.same rfl) (.cons rfl (.same rfl) .nil)))) ⟨i + 1, rfl, hlt, rfl⟩
  · repeat (first | refine o_nil ?_ | refine u_seq ?_ | refine z_cf rfl ?_ | refine z_exit ?_ | refine u_exit_seq ?_)
    refine u_out ?_
    repeat (first | refine z_seq ?_ | refine z_region rfl ?_ | refine o_nil ?_ | refine u_seq ?_ | refine z_ret ?_ | refine u_exit ?_ | refine o_mov rfl ?_)
    exact u_end ⟨.inr rfl, _, rfl, rfl⟩

def b52_0 : IC := .seq (.seq (.region [⟨(some 11), .mov (.t 5), none⟩,
    ⟨(some 12), .mov (.t 0), none⟩,
    ⟨(some 13), .len false (.t 12), none⟩,
    ⟨(some 14), .bin .lss (.t 11) (.t 13), none⟩] none)
  (.cond (.t 14) (.skip)
  (.exit 0)))
  (.seq (.block 1 (.seq (.region [⟨(some 17), .mov (.t 0), none⟩,
    ⟨(some 18), .mov (.t 5), none⟩,
    ⟨(some 19), .idxs 1 (.t 17) (.t 18), none⟩,
    ⟨(some 20), .load none (.t 19), none⟩,
    ⟨(some 21), .mov (.t 1), none⟩,
    ⟨(some 22), .mov (.t 5), none⟩,
    ⟨(some 23), .idxs 1 (.t 21) (.t 22), none⟩,
    ⟨(some 24), .load none (.t 23), none⟩,
    ⟨(some 25), .call (.c (.fn 59 [] [])) [(.t 20), (.t 24)], none⟩,
    ⟨(some 26), .un .not (.t 25), none⟩] (some [[], [], [0, 1], [2], [], [], [4, 5], [6], [3, 7], [8]]))
  (.cond (.t 26) (.seq (.region [⟨(some 4), .mov (.c (.bool false)), none⟩] none)
  (.ret))
  (.skip))))
  (.region [⟨(some 15), .mov (.t 5), none⟩,
    ⟨(some 16), .bin .add (.t 15) (.c (.int .i64 1)), none⟩,
    ⟨(some 5), .mov (.t 16), none⟩] none))

-- pneumatic/pneumaticref50.SameLists
def ic52 : IC := .seq (.region [⟨(some 4), .mov (.c (.bool false)), none⟩] none)
  (.seq (.seq (.region [⟨(some 6), .mov (.t 0), none⟩,
    ⟨(some 7), .len false (.t 6), none⟩,
    ⟨(some 8), .mov (.t 1), none⟩,
    ⟨(some 9), .len false (.t 8), none⟩,
    ⟨(some 10), .bin .neq (.t 7) (.t 9), none⟩] none)
  (.cond (.t 10) (.seq (.region [⟨(some 4), .mov (.c (.bool false)), none⟩] none)
  (.ret))
  (.skip)))
  (.seq (.seq (.region [⟨(some 5), .mov (.c (.int .i64 0)), none⟩] none)
  (.block 0 (.loop b52_0)))
  (.seq (.region [⟨(some 4), .mov (.c (.bool true)), none⟩] none)
  (.ret))))
theorem fn52 : env0.fn 52 = some ⟨27, ic52, [.t 4]⟩ := by kernel_rfl

theorem same52 (a : List (List Bool)) (ha : a.length ≤ 100000) (hs : ∀ x ∈ a, x.length ≤ 100000) : PF Try.prog 52 [vsL a, vsL a] (.bool true) := by
  have hal : (a.map fun e => ([vsB e] : List AV)).length = a.length := List.length_map ..
  refine PF_of_Z env0_ok fn52 [(0, vsL a), (1, vsL a)] (by show 2 ≤ 27; decide) rfl fun w0 N0 => ?_
  unfold ic52
  repeat (first | refine z_seq ?_ | refine z_region rfl ?_ | refine o_nil ?_ | refine u_seq ?_ | refine o_mov rfl ?_ | refine o_len rfl rfl ?_)
  refine o_cmp rfl rfl rfl (fun h => absurd h (by simp)) fun _ => ?_
  repeat (first | refine z_seq ?_ | refine z_region rfl ?_ | refine o_nil ?_ | refine u_seq ?_ | refine z_block ?_ | refine z_skip ?_ | refine z_cf rfl ?_ | refine o_mov rfl ?_)
  refine z_loop (fun mm S => ∃ i, mm = a.length - i ∧ i ≤ a.length ∧ S = st 27 [(0, vsL a), (1, vsL a), (5, .int .i64 (i : Nat))] [] 0 1) a.length
    (sub_ren0 (l' := [(0, vsL a), (1, vsL a), (5, .int .i64 ((0 : Nat) : Int))]) (.cons rfl (.same rfl) (.cons rfl (.same rfl) (.cons rfl (.same rfl) .nil)))) ⟨0, rfl, Nat.zero_le _, rfl⟩ ?_
  rintro mm S ⟨i, rfl, hi, rfl⟩
  unfold b52_0
  repeat (first | refine z_seq ?_ | refine z_region rfl ?_ | refine o_mov rfl ?_ | refine o_len rfl rfl ?_)
  rw [hal]
  refine o_cmp rfl rfl rfl (fun h3 => ?_) fun h3 => ?_
  · have hlt : i < a.length := by have := of_decide_eq_true h3; omega
    have hge : (a.map fun e => ([vsB e] : List AV))[((i : Nat) : Int).toNat]? = some [vsB a[i]] := by
      rw [Int.toNat_natCast, List.getElem?_map, List.getElem?_eq_getElem hlt]
      rfl
    have h59 := same59 a[i] (hs _ (List.getElem_mem hlt))
    generalize a[i] = x at hge h59
    repeat (first | refine z_seq ?_ | refine o_nil ?_ | refine u_seq ?_ | refine z_block ?_ | refine z_skip ?_ | refine z_ct rfl ?_)
    refine z_drawn env0_ok [(59, [vsB x, vsB x], .bool true)] (fun y hy => by
      obtain rfl := List.mem_singleton.1 hy
      exact h59) (fun f => Nat.beq f 59) rfl rfl rfl ?_
    repeat (first | refine o_mov rfl ?_ | refine o_load rfl rfl ?_ | refine o_idxs rfl rfl (by omega) (by assumption) rfl ?_)
    refine o_call rfl rfl lookL_here (fun h => Bool.noConfusion (show false = true from h)) ?_
    repeat (first | refine z_region rfl ?_ | refine o_nil ?_ | refine u_seq ?_ | refine u_blk ?_ | refine z_skip ?_ | refine z_cf rfl ?_ | refine o_mov rfl ?_ | refine o_un rfl rfl ?_ | refine o_bin (op := .add) rfl rfl rfl ?_)
    rw [wrap_succ i (by omega)]
    exact u_round (show a.length - (i + 1) < a.length - i by omega) (sub_ren0 (l' := [(0, vsL a), (1, vsL a), (5, .int .i64 ((i + 1 : Nat) : Int))]) (.cons rfl (.same rfl) (.cons rfl (.same rfl) (.cons rfl (.same rfl) .nil)))) ⟨i + 1, rfl, hlt, rfl⟩
  · repeat (first | refine o_nil ?_ | refine u_seq ?_ | refine z_cf rfl ?_ | refine z_exit ?_ | refine u_exit_seq ?_)
    refine u_out ?_
    repeat (first | refine z_seq ?_ | refine z_region rfl ?_ | refine o_nil ?_ | refine u_seq ?_ | refine z_ret ?_ | refine u_exit ?_ | refine o_mov rfl ?_)
    exact u_end ⟨.inr rfl, _, rfl, rfl⟩

def lostB (l : List Ex) (n : Nat) (D : List Int) (k : Nat) : Bool := decide (D.getD k 0 < 0) && freeB l (posE (bitsE n k))

def lostT (l : List Ex) (n : Nat) (D : List Int) (k : Nat) : List (List Bool) := ((List.range k).filter (lostB l n D)).map (bitsE n)

theorem lostT_succ (l : List Ex) (n : Nat) (D : List Int) (k : Nat) : lostT l n D (k + 1) = lostT l n D k ++ (if lostB l n D k then [bitsE n k] else []) := by
  unfold lostT
  rw [List.range_succ, List.filter_append, List.map_append]
  congr 1
  simp only [List.filter_cons, List.filter_nil]
  split <;> rfl

theorem lostT_len (l : List Ex) (n : Nat) (D : List Int) (k : Nat) : (lostT l n D k).length ≤ k := by
  unfold lostT
  rw [List.length_map]
  have := List.length_filter_le (lostB l n D) (List.range k)
  rwa [List.length_range] at this

def lostV (l : List Ex) (n : Int) : AV := if guardC l n = 0 then .tup [vsL (lostT l n.toNat (levL l n.toNat) (2 ^ n.toNat)), .int .i64 0] else .tup [vsL [], .int .i64 (guardC l n)]

def b51_0 : IC := .seq (.seq (.region [⟨(some 19), .mov (.t 9), none⟩,
    ⟨(some 20), .mov (.t 6), none⟩,
    ⟨(some 21), .len false (.t 20), none⟩,
    ⟨(some 22), .bin .lss (.t 19) (.t 21), none⟩] none)
  (.cond (.t 22) (.skip)
  (.exit 0)))
  (.seq (.block 1 (.seq (.region [⟨(some 25), .mov (.t 6), none⟩,
    ⟨(some 26), .mov (.t 9), none⟩,
    ⟨(some 27), .idxs 1 (.t 25) (.t 26), none⟩,
    ⟨(some 28), .load none (.t 27), none⟩,
    ⟨(some 29), .bin .lss (.t 28) (.c (.int .i64 0)), none⟩,
    ⟨(some 30), .mov (.t 29), none⟩,
    ⟨(some 31), .load (some 1) (.t 2), some (30, true)⟩,
    ⟨(some 32), .mov (.t 1), some (30, true)⟩,
    ⟨(some 33), .mov (.t 9), some (30, true)⟩,
    ⟨(some 34), .call (.c (.fn 55 [] [])) [(.t 32), (.t 33)], some (30, true)⟩,
    ⟨(some 35), .call (.c (.fn 56 [] [])) [(.t 34)], some (30, true)⟩,
    ⟨(some 36), .call (.c (.fn 98 [] [])) [(.t 31), (.t 35)], some (30, true)⟩,
    ⟨(some 37), .pick (.t 30) (.t 36) (.c (.bool false)), none⟩] (some [[], [], [0, 1], [2], [3], [4], [5], [5], [5], [7, 8, 5, 5], [9, 9, 5], [6, 10, 10, 5], [5, 11]]))
  (.cond (.t 37) (.region [⟨(some 38), .mov (.t 8), none⟩,
    ⟨(some 39), .mov (.t 1), none⟩,
    ⟨(some 40), .mov (.t 9), none⟩,
    ⟨(some 41), .call (.c (.fn 55 [] [])) [(.t 39), (.t 40)], none⟩,
    ⟨(some 42), .bslice 1 1 [.nils] [(0, 1, (.t 41))], none⟩,
    ⟨(some 43), .append 1 24 [.nils] (.t 38) (.t 42), none⟩,
    ⟨(some 8), .mov (.t 43), none⟩] none)
  (.skip))))
  (.region [⟨(some 23), .mov (.t 9), none⟩,
    ⟨(some 24), .bin .add (.t 23) (.c (.int .i64 1)), none⟩,
    ⟨(some 9), .mov (.t 24), none⟩] none))

-- pneumatic/pneumaticref50.Lost
def ic51 : IC := .seq (.region [⟨(some 2), .box (.t 0), none⟩,
    ⟨(some 4), .mov (.c (.nils)), none⟩,
    ⟨(some 5), .mov (.c (.int .i64 0)), none⟩] none)
  (.seq (.region [⟨(some 11), .load (some 1) (.t 2), none⟩,
    ⟨(some 12), .mov (.t 1), none⟩,
    ⟨(some 13), .call (.c (.fn 49 [] [])) [(.t 11), (.t 12)], none⟩,
    ⟨(some 10), .mov (.t 13), none⟩,
    ⟨(some 14), .extract (.t 10) 0, none⟩,
    ⟨(some 15), .extract (.t 10) 1, none⟩,
    ⟨(some 6), .mov (.t 14), none⟩,
    ⟨(some 7), .mov (.t 15), none⟩] none)
  (.seq (.seq (.region [⟨(some 16), .mov (.t 7), none⟩,
    ⟨(some 17), .bin .neq (.t 16) (.c (.int .i64 0)), none⟩] none)
  (.cond (.t 17) (.seq (.region [⟨(some 18), .mov (.t 7), none⟩,
    ⟨(some 4), .mov (.c (.nils)), none⟩,
    ⟨(some 5), .mov (.t 18), none⟩] none)
  (.ret))
  (.skip)))
  (.seq (.region [⟨(some 8), .mov (.c (.nils)), none⟩] none)
  (.seq (.seq (.region [⟨(some 9), .mov (.c (.int .i64 0)), none⟩] none)
  (.block 0 (.loop b51_0)))
  (.seq (.region [⟨(some 44), .mov (.t 8), none⟩,
    ⟨(some 4), .mov (.t 44), none⟩,
    ⟨(some 5), .mov (.c (.int .i64 0)), none⟩] none)
  (.ret))))))
theorem fn51 : env0.fn 51 = some ⟨45, ic51, [.t 4, .t 5]⟩ := by kernel_rfl

set_option maxHeartbeats 8000000 in
theorem lost51 (l : List Ex) (hsl : ∀ y ∈ l, Slim y) (n : Int) (h4 : guardC l n = 0 → n ≤ 4) : PF Try.prog 51 [.agg [.vs (cXs l)], .int .i64 n] (lostV l n) := by
  have p1 := levels49 l hsl n h4
  refine PF_of_Z env0_ok fn51 [(0, .agg [.vs (cXs l)]), (1, .int .i64 n)] (by show 2 ≤ 45; decide) rfl fun w0 N0 => ?_
  unfold ic51 lostV
  repeat (first | refine z_seq ?_ | refine z_region rfl ?_ | refine o_nil ?_ | refine u_seq ?_ | refine o_mov rfl ?_ | refine o_loadn rfl rfl rfl rfl ?_ | refine o_box rfl rfl ?_)
  by_cases hg : guardC l n = 0
  · rw [levV, if_pos hg] at p1
    rw [if_pos hg]
    obtain ⟨g1, g2, g3, g4⟩ := guardC_ok hg
    have h4 := h4 hg
    obtain ⟨m, rfl⟩ : ∃ m : Nat, n = (m : Int) := ⟨n.toNat, by omega⟩
    rw [Int.toNat_natCast] at p1 ⊢
    have h1 : 1 ≤ m := by omega
    have h4 : m ≤ 4 := by omega
    have hD := lev_any (l := l) h1 h4
    have hp4 := pow4 h4
    generalize levL l m = D at *
    have hDl : (D.map fun z => ([.int .i64 z] : List AV)).length = 2 ^ m := by rw [List.length_map, hD.len]
    refine o_call rfl rfl p1 (fun h => Bool.noConfusion (show false = true from h)) ?_
    repeat (first | refine z_seq ?_ | refine z_region rfl ?_ | refine o_nil ?_ | refine u_seq ?_ | refine z_block ?_ | refine z_skip ?_ | refine z_cf rfl ?_ | refine o_mov rfl ?_ | refine o_extract rfl rfl ?_ | refine o_cmpf rfl rfl rfl ?_)
    refine z_loop (fun mm S => ∃ k, mm = 2 ^ m - k ∧ k ≤ 2 ^ m ∧ S = st 45 [(1, .int .i64 (m : Nat)), (2, .vptr [.vs (cXs l)]), (6, vsI D), (8, .ms 0 0 1 0 ((lostT l m D k).length) none), (9, .int .i64 (k : Nat))] [(0, 0, .cells (rowB (lostT l m D k)))] 1 1) (2 ^ m)
      (sub_renw [(none, [])] [(0, 0, [.vs (cXs l)])] rfl rfl rfl (.cons rfl rfl .nil) (.new .nil) (l' := [(1, .int .i64 (m : Nat)), (2, .vptr [.vs (cXs l)]), (6, vsI D), (8, .ms 0 0 1 0 0 none), (9, .int .i64 ((0 : Nat) : Int))]) (.cons rfl (.same rfl) (.cons rfl (.fptr rfl rfl) (.cons rfl (.same rfl) (.cons rfl (.grow rfl) (.cons rfl (.same rfl) .nil)))))) ⟨0, rfl, Nat.zero_le _, rfl⟩ ?_
    rintro mm S ⟨k, rfl, hk, rfl⟩
    unfold b51_0
    repeat (first | refine z_seq ?_ | refine z_region rfl ?_ | refine o_mov rfl ?_ | refine o_len rfl rfl ?_)
    rw [hDl]
    refine o_cmp rfl rfl rfl (fun h3 => ?_) fun h3 => ?_
    · have hlt : k < 2 ^ m := Int.ofNat_lt.1 (of_decide_eq_true h3)
      have gk := vsI_getD (D := D) (k := k) (by rw [hD.len]; exact hlt)
      have hbl := bitsE_len m k
      have hib := idx_bits h1 h4 hlt
      have h55 := ends55 (e := bitsE m k) (by rw [hbl]; exact h1) (by rw [hbl]; exact h4)
      rw [hbl, hib] at h55
      have h56 := pos56 (e := bitsE m k) (by rw [hbl]; exact h1) (by rw [hbl]; exact h4)
      have h98 := free98 l hg (posE (bitsE m k)) (by rw [posE_len, hbl])
      have hkl := lostT_len l m D k
      repeat (first | refine z_seq ?_ | refine o_nil ?_ | refine u_seq ?_ | refine z_block ?_ | refine z_skip ?_ | refine z_ct rfl ?_)
      refine z_drawn env0_ok [(55, [.int .i64 (m : Nat), .int .i64 (k : Nat)], vsB (bitsE m k)), (56, [vsB (bitsE m k)], vsI (posE (bitsE m k))), (98, [.agg [.vs (cXs l)], vsI (posE (bitsE m k))], .bool (freeB l (posE (bitsE m k))))] (fun x hx => by
        rcases List.mem_cons.1 hx with rfl | hx
        · exact h55
        rcases List.mem_cons.1 hx with rfl | hx
        · exact h56
        obtain rfl := List.mem_singleton.1 hx
        exact h98) (fun f => Nat.beq f 55 || Nat.beq f 56 || Nat.beq f 98) rfl rfl rfl ?_
      repeat (first | refine o_mov rfl ?_ | refine o_load rfl rfl ?_ | refine o_idxs rfl rfl (by omega) (by assumption) rfl ?_)
      by_cases hneg : D.getD k 0 < 0
      · refine o_cmpt rfl rfl (by show some (AV.bool (decide (D.getD k 0 < 0))) = _; rw [decide_eq_true hneg]) ?_
        repeat (first | refine o_gy rfl ?_ | refine o_mov rfl ?_ | refine o_loadn rfl rfl rfl rfl ?_)
        refine o_call rfl rfl lookL_here (fun h => Bool.noConfusion (show false = true from h)) ?_
        refine o_gy rfl ?_
        refine o_call rfl rfl (lookL_next (by decide) lookL_here) (fun h => Bool.noConfusion (show false = true from h)) ?_
        refine o_gy rfl ?_
        refine o_call rfl rfl (lookL_next (by decide) (lookL_next (by decide) lookL_here)) (fun h => Bool.noConfusion (show false = true from h)) ?_
        cases hf : freeB l (posE (bitsE m k)) with
        | true =>
          have hlb : lostB l m D k = true := by unfold lostB; rw [decide_eq_true hneg, hf]; rfl
          have hlo : lostT l m D (k + 1) = lostT l m D k ++ [bitsE m k] := by rw [lostT_succ, hlb]; rfl
          repeat (first | refine z_region rfl ?_ | refine o_nil ?_ | refine u_seq ?_ | refine z_ct rfl ?_ | refine o_mov rfl ?_ | refine o_pickt rfl rfl ?_)
          refine o_call rfl rfl h55 (fun h => Bool.noConfusion (show false = true from h)) ?_
          refine o_fsl [[vsB (bitsE m k)]] rfl rfl rfl rfl ?_
          refine o_append_ms [[vsB (bitsE m k)]] rfl rfl rfl (fun h => Nat.noConfusion h) rfl (by decide) rfl (by unfold rowB; rw [List.length_map, Nat.mul_one]) (by show _ + 1 ≤ _; omega) ?_
          repeat (first | refine z_region rfl ?_ | refine o_nil ?_ | refine u_seq ?_ | refine u_blk ?_ | refine o_mov rfl ?_ | refine o_bin (op := .add) rfl rfl rfl ?_)
          rw [wrap_succ k (by omega)]
          exact u_round (show 2 ^ m - (k + 1) < 2 ^ m - k by omega) (sub_renw [(some (0, 1), rowB (lostT l m D (k + 1)))] [] rfl rfl rfl .nil (.cons (by rw [hlo]; unfold rowB; rw [List.map_append]; rfl) (.keep (rowB_hasM _)) .nil) (l' := [(1, .int .i64 (m : Nat)), (2, .vptr [.vs (cXs l)]), (6, vsI D), (8, .ms 0 0 1 0 ((lostT l m D (k + 1)).length) none), (9, .int .i64 (k + 1 : Nat))]) (.cons rfl (.same rfl) (.cons rfl (.same rfl) (.cons rfl (.same rfl) (.cons (by rw [hlo, List.length_append]; rfl) (.ms rfl) (.cons rfl (.same rfl) .nil)))))) ⟨k + 1, rfl, hlt, rfl⟩
        | false =>
          have hlb : lostB l m D k = false := by unfold lostB; rw [hf, Bool.and_false]
          have hlo : lostT l m D (k + 1) = lostT l m D k := by rw [lostT_succ, hlb]; exact List.append_nil _
          repeat (first | refine z_region rfl ?_ | refine o_nil ?_ | refine u_seq ?_ | refine u_blk ?_ | refine z_skip ?_ | refine z_cf rfl ?_ | refine o_mov rfl ?_ | refine o_pickt rfl rfl ?_ | refine o_bin (op := .add) rfl rfl rfl ?_)
          rw [wrap_succ k (by omega)]
          exact u_round (show 2 ^ m - (k + 1) < 2 ^ m - k by omega) (sub_keep (l' := [(1, .int .i64 (m : Nat)), (2, .vptr [.vs (cXs l)]), (6, vsI D), (8, .ms 0 0 1 0 ((lostT l m D k).length) none), (9, .int .i64 (k + 1 : Nat))]) (.cons rfl (.cons rfl (.cons rfl (.cons rfl (.cons rfl .nil)))))) ⟨k + 1, rfl, hlt, by rw [hlo]⟩
      · have hlb : lostB l m D k = false := by unfold lostB; rw [decide_eq_false hneg, Bool.false_and]
        have hlo : lostT l m D (k + 1) = lostT l m D k := by rw [lostT_succ, hlb]; exact List.append_nil _
        refine o_cmpf rfl rfl (by show some (AV.bool (decide (D.getD k 0 < 0))) = _; rw [decide_eq_false hneg]) ?_
        repeat (first | refine z_region rfl ?_ | refine o_nil ?_ | refine u_seq ?_ | refine u_blk ?_ | refine z_skip ?_ | refine z_cf rfl ?_ | refine o_gn rfl rfl ?_ | refine o_mov rfl ?_ | refine o_pickf rfl rfl ?_ | refine o_bin (op := .add) rfl rfl rfl ?_)
        rw [wrap_succ k (by omega)]
        exact u_round (show 2 ^ m - (k + 1) < 2 ^ m - k by omega) (sub_keep (l' := [(1, .int .i64 (m : Nat)), (2, .vptr [.vs (cXs l)]), (6, vsI D), (8, .ms 0 0 1 0 ((lostT l m D k).length) none), (9, .int .i64 (k + 1 : Nat))]) (.cons rfl (.cons rfl (.cons rfl (.cons rfl (.cons rfl .nil)))))) ⟨k + 1, rfl, hlt, by rw [hlo]⟩
    · have hk2 : k = 2 ^ m := by
        have : ¬ k < 2 ^ m := fun h => of_decide_eq_false h3 (Int.ofNat_lt.2 h)
        omega
      subst hk2
      repeat (first | refine o_nil ?_ | refine u_seq ?_ | refine z_cf rfl ?_ | refine z_exit ?_ | refine u_exit_seq ?_)
      refine u_out ?_
      repeat (first | refine z_seq ?_ | refine z_region rfl ?_ | refine o_nil ?_ | refine u_seq ?_ | refine z_ret ?_ | refine u_exit ?_ | refine o_mov rfl ?_)
      refine u_end ⟨.inr rfl, _, rfl, ?_⟩
      exact congrArg AV.tup (pair_eq (view_rowB (d := 2) _ rfl) rfl)
  · rw [levV, if_neg hg] at p1
    rw [if_neg hg]
    refine o_call rfl rfl p1 (fun h => Bool.noConfusion (show false = true from h)) ?_
    repeat (first | refine z_seq ?_ | refine z_region rfl ?_ | refine o_nil ?_ | refine u_seq ?_ | refine o_mov rfl ?_ | refine o_extract rfl rfl ?_)
    refine o_cmp rfl rfl rfl (fun h => ?_) fun h => absurd (by simpa using h) hg
    repeat (first | refine z_seq ?_ | refine z_region rfl ?_ | refine o_nil ?_ | refine u_seq ?_ | refine z_ct rfl ?_ | refine z_ret ?_ | refine u_ret_seq ?_ | refine o_mov rfl ?_)
    exact u_end ⟨.inr rfl, _, rfl, rfl⟩

end Go.Proofs.Ytoiblgbaeglgoaa
