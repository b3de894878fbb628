/-
  THE FIRST STROKE OF A HOMING: homing.Levels, homing.first; the reference's Levels.
-/
import Derived.Test.YtoiblgbaeglgoaaYH13
namespace Go.Proofs.Ytoiblgbaeglgoaa
open Go Go.Am

def levV (l : List Ex) (n : Int) : AV := if guardC l n = 0 then .tup [vsI (levL l n.toNat), .int .i64 0] else .tup [vsI [], .int .i64 (guardC l n)]

-- pneumatic/homing.Levels
def ic42 : IC := .seq (.region [⟨(some 2), .box (.t 0), none⟩,
    ⟨(some 4), .mov (.c (.nils)), none⟩,
    ⟨(some 5), .mov (.c (.int .i64 0)), none⟩] none)
  (.seq (.seq (.region [⟨(some 7), .load (some 1) (.t 2), none⟩,
    ⟨(some 8), .mov (.t 1), none⟩,
    ⟨(some 9), .call (.c (.fn 80 [] [])) [(.t 7), (.t 8)], none⟩,
    ⟨(some 6), .mov (.t 9), none⟩] none)
  (.seq (.region [⟨(some 10), .mov (.t 6), none⟩,
    ⟨(some 11), .bin .neq (.t 10) (.c (.int .i64 0)), none⟩] none)
  (.cond (.t 11) (.seq (.region [⟨(some 12), .mov (.t 6), none⟩,
    ⟨(some 4), .mov (.c (.nils)), none⟩,
    ⟨(some 5), .mov (.t 12), none⟩] none)
  (.ret))
  (.skip))))
  (.seq (.region [⟨(some 13), .load (some 1) (.t 2), none⟩,
    ⟨(some 14), .mov (.t 1), none⟩,
    ⟨(some 15), .call (.c (.fn 96 [] [])) [(.t 13), (.t 14)], none⟩,
    ⟨(some 4), .mov (.t 15), none⟩,
    ⟨(some 5), .mov (.c (.int .i64 0)), none⟩] none)
  (.ret)))
theorem fn42 : env0.fn 42 = some ⟨16, ic42, [.t 4, .t 5]⟩ := by kernel_rfl

theorem levels42 (l : List Ex) (hsl : ∀ y ∈ l, Slim y) (n : Int) (h4 : guardC l n = 0 → n ≤ 4) : PF Try.prog 42 [.agg [.vs (cXs l)], .int .i64 n] (levV l n) := by
  have h28 := gcheck28 l hsl n
  refine PF_of_Z env0_ok fn42 [(0, .agg [.vs (cXs l)]), (1, .int .i64 n)] (by show 2 ≤ 16; decide) rfl fun w0 N0 => ?_
  unfold ic42 levV
  repeat (first | refine z_seq ?_ | refine z_region rfl ?_ | refine o_nil ?_ | refine u_seq ?_ | refine o_mov rfl ?_ | refine o_loadn rfl rfl rfl rfl ?_ | refine o_box rfl rfl ?_)
  refine o_call rfl rfl h28 (fun h => Bool.noConfusion (show false = true from h)) ?_
  by_cases hg : guardC l n = 0
  · rw [if_pos hg]
    obtain ⟨g1, g2, g3, g4⟩ := guardC_ok hg
    have h4 := h4 hg
    obtain ⟨m, rfl⟩ : ∃ m : Nat, n = (m : Int) := ⟨n.toNat, by omega⟩
    rw [Int.toNat_natCast, hg]
    have hl := levels96 l hsl (n := m) (by omega) (by omega) hg
    repeat (first | refine z_seq ?_ | refine z_region rfl ?_ | refine o_nil ?_ | refine u_seq ?_ | refine z_skip ?_ | refine z_cf rfl ?_ | refine o_mov rfl ?_ | refine o_loadn rfl rfl rfl rfl ?_ | refine o_cmpf rfl rfl rfl ?_)
    refine o_call rfl rfl hl (fun h => Bool.noConfusion (show false = true from h)) ?_
    repeat (first | refine o_nil ?_ | refine u_seq ?_ | refine z_ret ?_ | refine o_mov rfl ?_)
    exact u_end ⟨.inr rfl, _, rfl, rfl⟩
  · rw [if_neg hg]
    repeat (first | refine z_seq ?_ | refine z_region rfl ?_ | refine o_nil ?_ | refine u_seq ?_ | refine o_mov rfl ?_)
    refine o_cmp rfl rfl rfl (fun h => ?_) fun h => absurd (by simpa using h) hg
    repeat (first | refine z_seq ?_ | refine z_region rfl ?_ | refine o_nil ?_ | refine u_seq ?_ | refine z_ct rfl ?_ | refine z_ret ?_ | refine u_ret_seq ?_ | refine o_mov rfl ?_)
    exact u_end ⟨.inr rfl, _, rfl, rfl⟩

def skE (n k i : Nat) : Sk := ⟨(i : Nat), !((bitsE n k).getD i false)⟩

def down (n : Nat) (D : List Int) (k i : Nat) : Bool := D.getD (nxt n k i) 0 == D.getD k 0 - 1

theorem vsI_getD {D : List Int} {k : Nat} (hk : k < D.length) : (D.map fun z => ([.int .i64 z] : List AV))[((k : Nat) : Int).toNat]? = some [.int .i64 (D.getD k 0)] := by
  rw [Int.toNat_natCast, List.getElem?_map, List.getD_eq_getElem?_getD, List.getElem?_eq_getElem hk]
  rfl

-- pneumatic/homing.first$1
def ic143 : IC := .seq (.region [⟨(some 3), .box (.t 0), none⟩,
    ⟨(some 4), .mov (.c (.bool false)), none⟩] none)
  (.seq (.region [⟨(some 5), .load none (.t 1), none⟩,
    ⟨(some 6), .load none (.t 2), none⟩,
    ⟨(some 7), .faddr 0 (.t 3), none⟩,
    ⟨(some 8), .load none (.t 7), none⟩,
    ⟨(some 9), .bin .shl (.c (.int .i64 1)) (.t 8), none⟩,
    ⟨(some 10), .bin .xor (.t 6) (.t 9), none⟩,
    ⟨(some 11), .idxs 1 (.t 5) (.t 10), none⟩,
    ⟨(some 12), .load none (.t 11), none⟩,
    ⟨(some 13), .load none (.t 1), none⟩,
    ⟨(some 14), .load none (.t 2), none⟩,
    ⟨(some 15), .idxs 1 (.t 13) (.t 14), none⟩,
    ⟨(some 16), .load none (.t 15), none⟩,
    ⟨(some 17), .bin .sub (.t 16) (.c (.int .i64 1)), none⟩,
    ⟨(some 18), .bin .eql (.t 12) (.t 17), none⟩,
    ⟨(some 4), .mov (.t 18), none⟩] (some [[], [], [], [2], [3], [1, 4], [0, 5], [6], [], [], [8, 9], [10], [11], [7, 12], [13, 0, 1, 2, 3, 4, 5, 6, 7, 8, 9, 10, 11, 12, 13]]))
  (.ret))
theorem fn143 : env0.fn 143 = some ⟨19, ic143, [.t 4]⟩ := by kernel_rfl

theorem down143 {n k i : Nat} (h1 : 1 ≤ n) (h4 : n ≤ 4) (hk : k < 2 ^ n) (hi : i < n) (D : List Int) (hD : D.length = 2 ^ n) (hb : ∀ z, z < 2 ^ n → -1 ≤ D.getD z 0 ∧ D.getD z 0 ≤ 100) :
    PF Try.prog 143 [.agg (cS (skE n k i)), .vptr [vsI D], .vptr [.int .i64 (k : Nat)]] (.bool (down n D k i)) := by
  have hbl := bitsE_len n k
  have hx := xorE (e := bitsE n k) (by rw [hbl]; exact h1) (by rw [hbl]; exact h4) (by rw [hbl]; exact hi)
  rw [idx_bits h1 h4 hk, show idxE (flipE (bitsE n k) i) = nxt n k i from rfl] at hx
  have hy := nxt_lt (k := k) (i := i) h1 h4
  have g1 := vsI_getD (D := D) (k := k) (by omega)
  have g2 := vsI_getD (D := D) (k := nxt n k i) (by omega)
  have b1 := hb k hk
  refine PF_of_Z env0_ok fn143 [(0, .agg (cS (skE n k i))), (1, .vptr [vsI D]), (2, .vptr [.int .i64 (k : Nat)])] (by show 3 ≤ 19; decide) rfl fun w0 N0 => ?_
  unfold ic143 cS skE
  repeat (first | refine z_seq ?_ | refine z_region rfl ?_ | refine o_nil ?_ | refine u_seq ?_ | refine o_mov rfl ?_ | refine o_load rfl rfl ?_ | refine o_faddrm rfl ?_ | refine o_box rfl rfl ?_ | refine z_drawn0 env0_ok rfl rfl rfl ?_)
  refine o_bin (op := .shl) rfl rfl (shl1 (show i < 4 by omega)) ?_
  refine o_bin (op := .xor) rfl rfl hx ?_
  repeat (first | refine o_load rfl rfl ?_ | refine o_bin (op := .sub) rfl rfl rfl ?_ | refine o_idxs rfl rfl (by omega) (by assumption) rfl ?_)
  rw [wrap_in _ (by omega) (by omega)]
  refine o_bin (op := .eql) rfl rfl rfl ?_
  repeat (first | refine o_nil ?_ | refine u_seq ?_ | refine z_ret ?_ | refine o_mov rfl ?_)
  exact u_end ⟨.inr rfl, _, rfl, rfl⟩

def fIx (p : Nat → Bool) : List Nat → Nat → Int
  | [], _ => -1
  | i :: r, j => if p i then (j : Nat) else fIx p r (j + 1)

theorem fIx_find (p : Nat → Bool) : ∀ (ms : List Nat) (b : Nat), (ms.find? p = none ∧ fIx p ms b = -1) ∨ ∃ i j, ms.find? p = some i ∧ fIx p ms b = ((b + j : Nat) : Int) ∧ ms[j]? = some i
  | [], b => .inl ⟨rfl, rfl⟩
  | i :: r, b => by
    rw [List.find?_cons, fIx]
    cases hp : p i with
    | true => exact .inr ⟨i, 0, rfl, rfl, rfl⟩
    | false =>
      rcases fIx_find p r (b + 1) with ⟨a, c⟩ | ⟨i2, j, a, c, d⟩
      · exact .inl ⟨a, c⟩
      · exact .inr ⟨i2, j + 1, a, by rw [if_neg (by decide), c]; omega, d⟩

def b119_0 : IC := .seq (.region [⟨(some 9), .bin .lss (.t 8) (.t 7), none⟩] none)
  (.seq (.cond (.t 9) (.skip)
  (.exit 0))
  (.seq (.block 1 (.seq (.region [⟨(some 10), .mov (.t 8), none⟩,
    ⟨(some 5), .mov (.t 10), none⟩] none)
  (.seq (.region [⟨(some 11), .mov (.t 1), none⟩,
    ⟨(some 12), .mov (.t 0), none⟩,
    ⟨(some 13), .mov (.t 5), none⟩,
    ⟨(some 14), .idxs 2 (.t 12) (.t 13), none⟩,
    ⟨(some 15), .load (some 2) (.t 14), none⟩,
    ⟨(some 16), .call (.t 11) [(.t 15)], none⟩] none)
  (.cond (.t 16) (.seq (.region [⟨(some 17), .mov (.t 5), none⟩,
    ⟨(some 4), .mov (.t 17), none⟩] none)
  (.ret))
  (.skip)))))
  (.region [⟨(some 18), .bin .add (.t 8) (.c (.int .i64 1)), none⟩,
    ⟨(some 8), .mov (.t 18), none⟩] none)))

-- slices.IndexFunc[[]pneumatic/api.Stroke,pneumatic/api.Stroke]
def ic119 : IC := .seq (.region [⟨(some 4), .mov (.c (.int .i64 0)), none⟩] none)
  (.seq (.seq (.region [⟨(some 6), .mov (.t 0), none⟩,
    ⟨(some 7), .len false (.t 6), none⟩,
    ⟨(some 8), .mov (.c (.int .i64 0)), none⟩] none)
  (.block 0 (.loop b119_0)))
  (.seq (.region [⟨(some 4), .mov (.c (.int .i64 (-1))), none⟩] none)
  (.ret)))
theorem fn119 : env0.fn 119 = some ⟨19, ic119, [.t 4]⟩ := by kernel_rfl

set_option maxHeartbeats 2000000 in
theorem index119 {n k : Nat} (h1 : 1 ≤ n) (h4 : n ≤ 4) (hk : k < 2 ^ n) (ms : List Nat) (hms : ∀ i ∈ ms, i < n) (hml : ms.length ≤ n) (D : List Int) (hD : D.length = 2 ^ n) (hb : ∀ z, z < 2 ^ n → -1 ≤ D.getD z 0 ∧ D.getD z 0 ≤ 100) :
    PF Try.prog 119 [.vs (cSs (ms.map (skE n k))), .fn 143 [] [.vptr [vsI D], .vptr [.int .i64 (k : Nat)]]] (.int .i64 (fIx (down n D k) ms 0)) := by
  have hcl : (cSs (ms.map (skE n k))).length = ms.length := by rw [cSs_length, List.length_map]
  refine PF_of_Z env0_ok fn119 [(0, .vs (cSs (ms.map (skE n k)))), (1, .fn 143 [] [.vptr [vsI D], .vptr [.int .i64 (k : Nat)]])] (by show 2 ≤ 19; decide) rfl fun w0 N0 => ?_
  unfold ic119
  repeat (first | refine z_seq ?_ | refine z_region rfl ?_ | refine o_nil ?_ | refine u_seq ?_ | refine z_block ?_ | refine o_mov rfl ?_ | refine o_len rfl rfl ?_)
  rw [hcl]
  refine z_loop (fun mm S => ∃ j, mm = ms.length - j ∧ j ≤ ms.length ∧ fIx (down n D k) ms 0 = fIx (down n D k) (ms.drop j) j ∧ S = st 19 [(0, .vs (cSs (ms.map (skE n k)))), (1, .fn 143 [] [.vptr [vsI D], .vptr [.int .i64 (k : Nat)]]), (7, .int .i64 (ms.length : Nat)), (8, .int .i64 (j : Nat))] [] 0 1) ms.length
    (sub_ren0 (.cons rfl (.same rfl) (.cons rfl (.same rfl) (.cons rfl (.same rfl) (.cons rfl (.same rfl) .nil))))) ⟨0, rfl, Nat.zero_le _, rfl, rfl⟩ ?_
  rintro mm S ⟨j, rfl, hj, hfx, rfl⟩
  unfold b119_0
  repeat (first | refine z_seq ?_ | refine z_region rfl ?_)
  refine o_cmp rfl rfl rfl (fun h3 => ?_) fun h3 => ?_
  · have hlt : j < ms.length := by have := of_decide_eq_true h3; omega
    have hmem := List.getElem_mem hlt
    rw [List.drop_eq_getElem_cons hlt, fIx] at hfx
    have hge := cSs_get (l := ms.map (skE n k)) (i := j) (by rw [List.length_map]; exact hlt)
    rw [List.getElem_map] at hge
    generalize ms[j] = i at hmem hfx hge
    have h143 := down143 h1 h4 hk (hms i hmem) D hD hb
    have hge : (cSs (ms.map (skE n k)))[((j : Nat) : Int).toNat]? = some (cS (skE n k i)) := hge
    repeat (first | refine z_seq ?_ | refine z_region rfl ?_ | refine o_nil ?_ | refine u_seq ?_ | refine z_block ?_ | refine z_skip ?_ | refine z_ct rfl ?_ | refine o_mov rfl ?_ | refine o_loadn rfl rfl rfl rfl ?_ | refine o_idxs rfl rfl (by omega) (by assumption) rfl ?_)
    refine o_callv rfl rfl rfl h143 (fun h => Bool.noConfusion (show false = true from h)) ?_
    cases hp : down n D k i with
    | true =>
      rw [hp, if_pos rfl] at hfx
      rw [hfx]
      repeat (first | refine z_seq ?_ | refine z_region rfl ?_ | refine o_nil ?_ | refine u_seq ?_ | refine z_ct rfl ?_ | refine z_ret ?_ | refine u_ret_seq ?_ | refine u_ret_blk ?_ | refine o_mov rfl ?_)
      refine u_out_ret ?_
      repeat (first | refine u_ret_seq ?_ | refine u_ret_blk ?_)
      exact u_end ⟨.inr rfl, _, rfl, rfl⟩
    | false =>
      rw [hp, if_neg (by decide)] at hfx
      repeat (first | refine z_region rfl ?_ | refine o_nil ?_ | refine u_seq ?_ | refine u_blk ?_ | refine z_skip ?_ | refine z_cf rfl ?_ | refine o_mov rfl ?_ | refine o_bin (op := .add) rfl rfl rfl ?_)
      rw [wrap_succ j (by omega)]
      exact u_round (show ms.length - (j + 1) < ms.length - j by omega) (sub_ren0 (.cons rfl (.same rfl) (.cons rfl (.same rfl) (.cons rfl (.same rfl) (.cons rfl (.same rfl) .nil))))) ⟨j + 1, rfl, hlt, hfx, rfl⟩
  · have hj2 : j = ms.length := by have := of_decide_eq_false h3; omega
    subst hj2
    rw [List.drop_length, fIx] at hfx
    rw [hfx]
    repeat (first | refine z_seq ?_ | refine o_nil ?_ | refine u_seq ?_ | refine z_cf rfl ?_ | refine z_exit ?_ | refine u_exit_seq ?_)
    refine u_out ?_
    repeat (first | refine z_seq ?_ | refine z_region rfl ?_ | refine o_nil ?_ | refine u_seq ?_ | refine z_ret ?_ | refine u_exit ?_ | refine o_mov rfl ?_)
    exact u_end ⟨.inr rfl, _, rfl, rfl⟩

def firstV (l : List Ex) (n : Nat) (D : List Int) (k : Nat) : AV := match (mv l n k).find? (down n D k) with
  | some i => .tup [.agg (cS (skE n k i)), .bool true]
  | none => .tup [.agg [.int .i64 0, .bool false], .bool false]

-- pneumatic/homing.first
def ic97 : IC := .seq (.region [⟨(some 4), .box (.t 0), none⟩,
    ⟨(some 6), .box (.t 2), none⟩,
    ⟨(some 7), .box (.t 3), none⟩,
    ⟨(some 8), .alloc [.int .i64 0, .bool false], none⟩,
    ⟨(some 9), .mov (.c (.bool false)), none⟩] none)
  (.seq (.region [⟨(some 12), .load (some 1) (.t 4), none⟩,
    ⟨(some 13), .mov (.t 1), none⟩,
    ⟨(some 14), .load none (.t 6), none⟩,
    ⟨(some 15), .call (.c (.fn 101 [] [])) [(.t 12), (.t 13), (.t 14)], none⟩,
    ⟨(some 10), .mov (.t 15), none⟩] none)
  (.seq (.region [⟨(some 16), .mov (.t 10), none⟩,
    ⟨(some 17), .mkfn 143 [] [(.t 7), (.t 6)], none⟩,
    ⟨(some 18), .call (.c (.fn 119 [] [])) [(.t 16), (.t 17)], none⟩,
    ⟨(some 11), .mov (.t 18), none⟩] none)
  (.seq (.seq (.region [⟨(some 19), .mov (.t 11), none⟩,
    ⟨(some 20), .bin .lss (.t 19) (.c (.int .i64 0)), none⟩] none)
  (.cond (.t 20) (.seq (.region [⟨(some 21), .build [.int .i64 0, .bool false] [], none⟩,
    ⟨none, .store 2 (.t 8) (.t 21), none⟩,
    ⟨(some 9), .mov (.c (.bool false)), none⟩] none)
  (.ret))
  (.skip)))
  (.seq (.region [⟨(some 22), .mov (.t 10), none⟩,
    ⟨(some 23), .mov (.t 11), none⟩,
    ⟨(some 24), .idxs 2 (.t 22) (.t 23), none⟩,
    ⟨(some 25), .load (some 2) (.t 24), none⟩,
    ⟨none, .store 2 (.t 8) (.t 25), none⟩,
    ⟨(some 9), .mov (.c (.bool true)), none⟩] none)
  (.ret)))))
theorem fn97 : env0.fn 97 = some ⟨26, ic97, [.cell 8 (some 2), .t 9]⟩ := by kernel_rfl

theorem first97 (l : List Ex) (hsl : ∀ y ∈ l, Slim y) {n k : Nat} (h1 : 1 ≤ n) (h4 : n ≤ 4) (hg : guardC l n = 0) (hk : k < 2 ^ n) (D : List Int) (hD : D.length = 2 ^ n) (hb : ∀ z, z < 2 ^ n → -1 ≤ D.getD z 0 ∧ D.getD z 0 ≤ 100) :
    PF Try.prog 97 [.agg [.vs (cXs l)], .int .i64 (n : Nat), .int .i64 (k : Nat), vsI D] (firstV l n D k) := by
  have hbl := bitsE_len n k
  have hmv := moves101 l hsl (bitsE n k) (by rw [hbl]; exact h1) (by rw [hbl]; exact h4) (by rw [hbl]; exact hg)
  rw [hbl, idx_bits h1 h4 hk, moves_mv] at hmv
  have hmv : PF Try.prog 101 [.agg [.vs (cXs l)], .int .i64 (n : Nat), .int .i64 (k : Nat)] (.vs (cSs ((mv l n k).map (skE n k)))) := hmv
  have hmn : (mv l n k).length ≤ n := by
    have := List.length_filter_le (fun i => mayB l (bitsE n k) i) (List.range n)
    rwa [List.length_range] at this
  have hix := index119 h1 h4 hk (mv l n k) (fun i hi => mv_lt hi) hmn D hD hb
  refine PF_of_Z env0_ok fn97 [(0, .agg [.vs (cXs l)]), (1, .int .i64 (n : Nat)), (2, .int .i64 (k : Nat)), (3, vsI D)] (by show 4 ≤ 26; decide) rfl fun w0 N0 => ?_
  unfold ic97 firstV
  repeat (first | refine z_seq ?_ | refine z_region rfl ?_ | refine o_nil ?_ | refine u_seq ?_ | refine o_mov rfl ?_ | refine o_load rfl rfl ?_ | refine o_loadn rfl rfl rfl rfl ?_ | refine o_alloc ?_ | refine o_box rfl rfl ?_)
  refine o_call rfl rfl hmv (fun h => Bool.noConfusion (show false = true from h)) ?_
  repeat (first | refine z_seq ?_ | refine z_region rfl ?_ | refine o_nil ?_ | refine u_seq ?_ | refine o_mov rfl ?_ | refine o_mkfn rfl rfl ?_)
  refine o_call rfl rfl hix (fun _ => rfl) ?_
  repeat (first | refine z_seq ?_ | refine z_region rfl ?_ | refine o_nil ?_ | refine u_seq ?_ | refine o_mov rfl ?_)
  rcases fIx_find (down n D k) (mv l n k) 0 with ⟨a, c⟩ | ⟨i, j, a, c, d⟩
  · rw [a, c]
    refine o_cmpt rfl rfl rfl ?_
    repeat (first | refine z_seq ?_ | refine z_region rfl ?_ | refine o_nil ?_ | refine u_seq ?_ | refine z_ct rfl ?_ | refine z_ret ?_ | refine u_ret_seq ?_ | refine o_mov rfl ?_ | refine o_store rfl rfl rfl rfl rfl rfl rfl ?_ | refine o_build rfl rfl ?_)
    exact u_end ⟨.inr rfl, _, rfl, rfl⟩
  · rw [a, c, Nat.zero_add]
    have hge : (cSs ((mv l n k).map (skE n k)))[((j : Nat) : Int).toNat]? = some (cS (skE n k i)) := by
      rw [Int.toNat_natCast, cSs, List.map_map, List.getElem?_map, d]
      rfl
    refine o_cmp rfl rfl rfl (fun h => absurd (of_decide_eq_true h) (by omega)) fun h => ?_
    unfold cS at hge ⊢
    repeat (first | refine z_seq ?_ | refine z_region rfl ?_ | refine o_nil ?_ | refine u_seq ?_ | refine z_skip ?_ | refine z_cf rfl ?_ | refine z_ret ?_ | refine o_mov rfl ?_ | refine o_loadn rfl rfl rfl rfl ?_ | refine o_store rfl rfl rfl rfl rfl rfl rfl ?_ | refine o_idxs rfl rfl (by omega) (by assumption) rfl ?_)
    exact u_end ⟨.inr rfl, _, rfl, rfl⟩

end Go.Proofs.Ytoiblgbaeglgoaa
