/-
  THE SEARCH FROM HOME: what it computes; the queue's functions.
-/
import Derived.Test.YtoiblgbaeglgoaaYH5
namespace Go.Proofs.Ytoiblgbaeglgoaa
open Go Go.Am

def bitsE (n k : Nat) : List Bool := (List.range n).map fun i => k / 2 ^ i % 2 == 1

theorem bitsE_len (n k : Nat) : (bitsE n k).length = n := by rw [bitsE, List.length_map, List.length_range]

theorem bitsE_all : ∀ n ∈ [1, 2, 3, 4], ∀ k ∈ List.range 16, k < 2 ^ n → idxE (bitsE n k) = k := by decide +kernel

theorem n4 {n : Nat} (h1 : 1 ≤ n) (h4 : n ≤ 4) : n ∈ [1, 2, 3, 4] := by
  rcases (show n = 1 ∨ n = 2 ∨ n = 3 ∨ n = 4 by omega) with rfl | rfl | rfl | rfl <;> simp

theorem pow4 {n : Nat} (h4 : n ≤ 4) : 2 ^ n ≤ 16 := Nat.pow_le_pow_right (by decide) h4

theorem idx_bits {n k : Nat} (h1 : 1 ≤ n) (h4 : n ≤ 4) (hk : k < 2 ^ n) : idxE (bitsE n k) = k :=
  bitsE_all n (n4 h1 h4) k (List.mem_range.2 (by have := pow4 h4; omega)) hk

theorem idx_lt_all : ∀ e ∈ allE, idxE e < 2 ^ e.length := by decide +kernel
theorem bits_idx_all : ∀ e ∈ allE, bitsE e.length (idxE e) = e := by decide +kernel

theorem idx_lt {e : List Bool} (h1 : 1 ≤ e.length) (h4 : e.length ≤ 4) : idxE e < 2 ^ e.length := idx_lt_all e (allE_mem e h1 h4)
theorem bits_idx {e : List Bool} (h1 : 1 ≤ e.length) (h4 : e.length ≤ 4) : bitsE e.length (idxE e) = e := bits_idx_all e (allE_mem e h1 h4)

def nxt (n k i : Nat) : Nat := idxE (flipE (bitsE n k) i)

theorem nxt_lt {n k i : Nat} (h1 : 1 ≤ n) (h4 : n ≤ 4) : nxt n k i < 2 ^ n := by
  have := idx_lt (e := flipE (bitsE n k) i) (by rw [flip_len, bitsE_len]; exact h1) (by rw [flip_len, bitsE_len]; exact h4)
  rwa [flip_len, bitsE_len] at this

theorem bits_nxt {n k i : Nat} (h1 : 1 ≤ n) (h4 : n ≤ 4) : bitsE n (nxt n k i) = flipE (bitsE n k) i := by
  have := bits_idx (e := flipE (bitsE n k) i) (by rw [flip_len, bitsE_len]; exact h1) (by rw [flip_len, bitsE_len]; exact h4)
  rwa [flip_len, bitsE_len] at this

def mv (l : List Ex) (n k : Nat) : List Nat := (List.range n).filter fun i => mayB l (bitsE n k) i

theorem mv_lt {l : List Ex} {n k i : Nat} (h : i ∈ mv l n k) : i < n := List.mem_range.1 (List.mem_filter.1 h).1

theorem moves_mv (l : List Ex) (n k : Nat) : movesL l (bitsE n k) = (mv l n k).map fun i => ⟨(i : Nat), !((bitsE n k).getD i false)⟩ := by
  unfold movesL movesT mv
  rw [bitsE_len]

def push (n k : Nat) (s : List Int × List Nat) (i : Nat) : List Int × List Nat :=
  if s.1.getD (nxt n k i) 0 < 0 then (s.1.set (nxt n k i) (s.1.getD k 0 + 1), s.2 ++ [nxt n k i]) else s

def visit (l : List Ex) (n k : Nat) (s : List Int × List Nat) : List Int × List Nat := (mv l n k).foldl (push n k) s

def bfs (l : List Ex) (n : Nat) : Nat → List Int × List Nat → List Int
  | 0, s => s.1
  | _ + 1, (out, []) => out
  | f + 1, (out, k :: q) => bfs l n f (visit l n k (out, q))

def levL (l : List Ex) (n : Nat) : List Int := if freeB l (posE (bitsE n 0)) then bfs l n (2 ^ n + 1) ((List.replicate (2 ^ n) (-1)).set 0 0, [0]) else List.replicate (2 ^ n) (-1)

def negs (out : List Int) : Nat := (out.filter fun v => v < 0).length

theorem negs_set {v : Int} (hv : 0 ≤ v) : ∀ (out : List Int) (y : Nat), out.getD y 0 < 0 → negs (out.set y v) + 1 = negs out
  | [], y, h => by simp at h
  | a :: out, 0, h => by
    have h : a < 0 := by simpa using h
    unfold negs
    rw [List.set_cons_zero, List.filter_cons, List.filter_cons, if_neg (by simpa using hv), if_pos (by simpa using h)]
    rfl
  | a :: out, y + 1, h => by
    have h : out.getD y 0 < 0 := by simpa using h
    have ih := negs_set hv out y h
    unfold negs at ih ⊢
    rw [List.set_cons_succ, List.filter_cons, List.filter_cons]
    split
    · simp only [List.length_cons]; omega
    · exact ih

structure BI (n : Nat) (s : List Int × List Nat) : Prop where
  len : s.1.length = 2 ^ n
  q : ∀ y ∈ s.2, y < 2 ^ n ∧ 0 ≤ s.1.getD y 0
  lo : ∀ v ∈ s.1, -1 ≤ v
  hi : ∀ v ∈ s.1, v + negs s.1 + 1 ≤ ((2 ^ n : Nat) : Int)
  ql : s.2.length ≤ 2 ^ n

theorem getD_mem {out : List Int} {y : Nat} (h : y < out.length) : out.getD y 0 ∈ out := by
  rw [List.getD_eq_getElem?_getD, List.getElem?_eq_getElem h]
  exact List.getElem_mem h

theorem getD_set_int {out : List Int} {y z : Nat} {v : Int} (hy : y < out.length) : (out.set y v).getD z 0 = if y = z then v else out.getD z 0 := by
  simp only [List.getD_eq_getElem?_getD, List.getElem?_set]
  split
  · rename_i h; subst h; simp
  · rfl

theorem push_BI {n k i : Nat} (h1 : 1 ≤ n) (h4 : n ≤ 4) (hk : k < 2 ^ n) {s : List Int × List Nat} (h : BI n s) (hk0 : 0 ≤ s.1.getD k 0) (hm : s.2.length + negs s.1 ≤ 2 ^ n) :
    BI n (push n k s i) ∧ 0 ≤ (push n k s i).1.getD k 0 ∧ (push n k s i).2.length + negs (push n k s i).1 = s.2.length + negs s.1 := by
  unfold push
  split
  · rename_i hn
    have hy := nxt_lt (k := k) (i := i) h1 h4
    have hyl : nxt n k i < s.1.length := by rw [h.len]; exact hy
    have hkm := getD_mem (y := k) (by rw [h.len]; exact hk)
    have hv : (0 : Int) ≤ s.1.getD k 0 + 1 := by omega
    have hneg := negs_set hv s.1 (nxt n k i) hn
    have hki := h.hi _ hkm
    refine ⟨⟨by rw [List.length_set]; exact h.len, fun y hy' => ?_, fun v hv' => ?_, fun v hv' => ?_, ?_⟩, ?_, ?_⟩
    · rcases List.mem_append.1 hy' with hq | hq
      · have := h.q y hq
        refine ⟨this.1, ?_⟩
        rw [getD_set_int hyl]
        split
        · exact hv
        · exact this.2
      · obtain rfl := List.mem_singleton.1 hq
        refine ⟨hy, ?_⟩
        rw [getD_set_int hyl, if_pos rfl]
        exact hv
    · rcases List.mem_or_eq_of_mem_set hv' with hq | hq
      · exact h.lo v hq
      · omega
    · show v + ((negs (s.1.set _ _) : Nat) : Int) + 1 ≤ _
      rcases List.mem_or_eq_of_mem_set hv' with hq | hq
      · have := h.hi v hq; omega
      · omega
    · show (s.2 ++ [nxt n k i]).length ≤ _
      rw [List.length_append, List.length_singleton]
      omega
    · show 0 ≤ (s.1.set (nxt n k i) (s.1.getD k 0 + 1)).getD k 0
      rw [getD_set_int hyl]
      split
      · exact hv
      · exact hk0
    · show (s.2 ++ [nxt n k i]).length + negs (s.1.set (nxt n k i) (s.1.getD k 0 + 1)) = _
      rw [List.length_append, List.length_singleton]
      omega
  · exact ⟨h, hk0, rfl⟩

-- (*pneumatic/homing.queue[int]).put
def ic141 : IC := .region [⟨(some 4), .mov (.t 0), none⟩,
    ⟨(some 5), .mov (.t 0), none⟩,
    ⟨(some 6), .nilchk (.t 5), none⟩,
    ⟨(some 7), .faddr 0 (.t 6), none⟩,
    ⟨(some 8), .load none (.t 7), none⟩,
    ⟨(some 9), .mov (.t 1), none⟩,
    ⟨(some 10), .bslice 1 1 [.int .i64 0] [(0, 1, (.t 9))], none⟩,
    ⟨(some 11), .append 1 8 [.int .i64 0] (.t 8) (.t 10), none⟩,
    ⟨(some 12), .nilchk (.t 4), none⟩,
    ⟨(some 13), .faddr 0 (.t 12), none⟩,
    ⟨none, .store 1 (.t 13) (.t 11), none⟩] none
theorem fn141 : env0.fn 141 = some ⟨14, ic141, []⟩ := by kernel_rfl

theorem put141 {w0 : World} {N0 a sa : Nat} {qid sq off len : Nat} {cs : List AV} (x : Int) (H : HS) (ha : Am.look a H.heap = some (sa, .cells [.ms qid sq 1 off len none])) (hn : a < H.next) (hq : Am.look qid H.heap = some (sq, .cells cs)) (hne : a ≠ qid) (h1 : off + len ≤ cs.length) (h2 : len + 1 ≤ 1048576) :
    FT Try.prog w0 N0 141 [.mptr a sa 0, .int .i64 x] H fun _ H' => H' = ⟨putl a (sa, .cells [.ms qid H.clk 1 0 (len + 1) none]) (putl qid (H.clk, .cells ((cs.drop off).take len ++ [.int .i64 x])) H.heap), H.next, H.clk + 1⟩ := by
  refine FT_of_Z env0_ok fn141 [(0, .mptr a sa 0), (1, .int .i64 x)] (by show 2 ≤ 14; decide) rfl ?_
  unfold ic141
  repeat (first | refine z_region rfl ?_ | refine o_mov rfl ?_ | refine o_faddrm rfl ?_ | refine o_nilm rfl ?_)
  refine o_loadm (sp := sa) rfl ha hn rfl ?_
  repeat (first | refine o_mov rfl ?_)
  refine o_fsl [[.int .i64 x]] rfl rfl rfl rfl ?_
  refine o_append_off [[.int .i64 x]] rfl rfl rfl (fun h => Nat.noConfusion h) rfl (by decide) hq (by rw [Nat.mul_one]; exact h1) h2 ?_
  repeat (first | refine o_faddrm rfl ?_ | refine o_nilm rfl ?_)
  refine o_store (sp := sa) rfl rfl rfl rfl (by rw [look_putl, if_neg (fun e => hne e.symm)]; exact ha) rfl rfl ?_
  repeat (first | refine o_nil ?_)
  refine u_end ⟨.inl rfl, _, rfl, ?_⟩
  rw [Nat.mul_one]
  rfl

theorem put141n {w0 : World} {N0 a sa : Nat} (x : Int) (H : HS) (ha : Am.look a H.heap = some (sa, .cells [.nils])) (hn : a < H.next) :
    FT Try.prog w0 N0 141 [.mptr a sa 0, .int .i64 x] H fun _ H' => H' = ⟨putl a (sa, .cells [.ms H.next H.clk 1 0 1 none]) ((H.next, H.clk, .cells [.int .i64 x]) :: H.heap), H.next + 1, H.clk + 1⟩ := by
  refine FT_of_Z env0_ok fn141 [(0, .mptr a sa 0), (1, .int .i64 x)] (by show 2 ≤ 14; decide) rfl ?_
  unfold ic141
  repeat (first | refine z_region rfl ?_ | refine o_mov rfl ?_ | refine o_faddrm rfl ?_ | refine o_nilm rfl ?_)
  refine o_loadm (sp := sa) rfl ha hn rfl ?_
  repeat (first | refine o_mov rfl ?_)
  refine o_fsl [[.int .i64 x]] rfl rfl rfl rfl ?_
  repeat (first | refine o_faddrm rfl ?_ | refine o_append rfl rfl rfl rfl ?_ | refine o_nilm rfl ?_)
  refine o_store (sp := sa) rfl rfl rfl rfl (by show Am.look a ((H.next, _, _) :: H.heap) = _; rw [look_cons, if_neg (by omega)]; exact ha) rfl rfl ?_
  repeat (first | refine o_nil ?_)
  exact u_end ⟨.inl rfl, _, rfl, rfl⟩

-- (*pneumatic/homing.queue[int]).all
def ic142 : IC := .seq (.region [⟨(some 1), .box (.t 0), none⟩,
    ⟨(some 2), .mov (.c (.nilf)), none⟩] none)
  (.seq (.region [⟨(some 3), .mkfn 161 [] [(.t 1)], none⟩,
    ⟨(some 2), .mov (.t 3), none⟩] none)
  (.ret))
theorem fn142 : env0.fn 142 = some ⟨4, ic142, [.t 2]⟩ := by kernel_rfl

theorem all142 {w0 : World} {N0 a sa : Nat} (H : HS) : FT Try.prog w0 N0 142 [.mptr a sa 0] H fun v H' => v = .fn 161 [] [.mptr H.next H.clk 0] ∧ H' = ⟨(H.next, H.clk, .cells [.mptr a sa 0]) :: H.heap, H.next + 1, H.clk + 1⟩ := by
  refine FT_of_Z env0_ok fn142 [(0, .mptr a sa 0)] (by show 1 ≤ 4; decide) rfl ?_
  unfold ic142
  repeat (first | refine z_seq ?_ | refine z_region rfl ?_ | refine o_nil ?_ | refine u_seq ?_ | refine z_ret ?_ | refine o_mov rfl ?_ | refine o_box rfl rfl ?_ | refine o_mkfn rfl rfl ?_)
  exact u_end ⟨.inr rfl, _, rfl, rfl, rfl⟩

end Go.Proofs.Ytoiblgbaeglgoaa
