/-
  A GREATEST LIST OF ELEMENTS THAT ARE APART: the search of setcover.Bound.
-/
import Derived.Test.YtknomkcdpcnmaaaEVI
import Derived.Test.YtknomkcdpcnmaaaEVB
namespace Go.Proofs.Ytknomkcdpcnmaaa
open Go Go.Am
def b52_0 : IC := .seq (.seq (.region [⟨(some 19), .mov (.t 10), none⟩,
  ⟨(some 20), .faddr 0 (.t 4), none⟩,
  ⟨(some 21), .load none (.t 20), none⟩,
  ⟨(some 22), .bin .lss (.t 19) (.t 21), none⟩,
  ⟨(some 23), .mov (.t 22), none⟩,
  ⟨(some 24), .mov (.t 0), some (23, true)⟩,
  ⟨(some 25), .len false (.t 24), some (23, true)⟩,
  ⟨(some 26), .faddr 0 (.t 4), some (23, true)⟩,
  ⟨(some 27), .load none (.t 26), some (23, true)⟩,
  ⟨(some 28), .bin .add (.t 25) (.t 27), some (23, true)⟩,
  ⟨(some 29), .mov (.t 10), some (23, true)⟩,
  ⟨(some 30), .bin .sub (.t 28) (.t 29), some (23, true)⟩,
  ⟨(some 31), .load none (.t 3), some (23, true)⟩,
  ⟨(some 32), .len false (.t 31), some (23, true)⟩,
  ⟨(some 33), .bin .gtr (.t 30) (.t 32), some (23, true)⟩,
  ⟨(some 34), .pick (.t 23) (.t 33) (.c (.bool false)), none⟩] none)
 (.cond (.t 34) (.skip)
 (.exit 0)))
 (.seq (.block 1 (.seq (.region [⟨(some 37), .mov (.t 2), none⟩,
  ⟨(some 38), .mov (.t 10), none⟩,
  ⟨(some 39), .bin .shr (.t 37) (.t 38), none⟩,
  ⟨(some 40), .bin .and (.t 39) (.c (.int .u64 1)), none⟩,
  ⟨(some 41), .bin .eql (.t 40) (.c (.int .u64 0)), none⟩] none)
 (.cond (.t 41) (.region [⟨(some 42), .load none (.t 5), none⟩,
  ⟨(some 43), .mov (.t 0), none⟩,
  ⟨(some 44), .mov (.t 10), none⟩,
  ⟨(some 45), .bslice 1 1 [.int .i64 0] [(0, 1, (.t 44))], none⟩,
  ⟨(some 46), .append 1 8 [.int .i64 0] (.t 43) (.t 45), none⟩,
  ⟨(some 47), .mov (.t 10), none⟩,
  ⟨(some 48), .bin .add (.t 47) (.c (.int .i64 1)), none⟩,
  ⟨(some 49), .mov (.t 2), none⟩,
  ⟨(some 50), .load none (.t 6), none⟩,
  ⟨(some 51), .mov (.t 10), none⟩,
  ⟨(some 52), .idxs 1 (.t 50) (.t 51), none⟩,
  ⟨(some 53), .load none (.t 52), none⟩,
  ⟨(some 54), .bin .or (.t 49) (.t 53), none⟩,
  ⟨(some 55), .call (.t 42) [(.t 46), (.t 48), (.t 54)], none⟩] (some [[], [], [], [2], [1, 3], [], [5], [], [], [], [8, 9], [10], [7, 11], [0, 4, 6, 12, 4]]))
 (.skip))))
 (.region [⟨(some 35), .mov (.t 10), none⟩,
  ⟨(some 36), .bin .add (.t 35) (.c (.int .i64 1)), none⟩,
  ⟨(some 10), .mov (.t 36), none⟩] none))
-- pneumatic/setcover.Bound$1
def ic52 : IC := .seq (.seq (.region [⟨(some 11), .mov (.t 0), none⟩,
  ⟨(some 12), .len false (.t 11), none⟩,
  ⟨(some 13), .load none (.t 3), none⟩,
  ⟨(some 14), .len false (.t 13), none⟩,
  ⟨(some 15), .bin .gtr (.t 12) (.t 14), none⟩] none)
 (.cond (.t 15) (.region [⟨(some 16), .mov (.t 0), none⟩,
  ⟨(some 17), .call (.c (.fn 45 [] [])) [(.t 16)], none⟩,
  ⟨none, .store 1 (.t 3) (.t 17), none⟩] none)
 (.skip)))
 (.seq (.region [⟨(some 18), .mov (.t 1), none⟩,
  ⟨(some 10), .mov (.t 18), none⟩] none)
 (.block 0 (.loop b52_0)))
theorem fn52 : env0.fn 52 = some ⟨56, ic52, []⟩ := by kernel_rfl
-- pneumatic/setcover.Bound
def ic19 : IC := .seq (.region [⟨(some 1), .box (.t 0), none⟩,
  ⟨(some 2), .mov (.c (.nils)), none⟩,
  ⟨(some 3), .mov (.c (.int .i64 0)), none⟩] none)
 (.seq (.seq (.region [⟨(some 8), .load (some 2) (.t 1), none⟩,
  ⟨(some 9), .call (.c (.fn 41 [] [])) [(.t 8)], none⟩,
  ⟨(some 4), .mov (.t 9), none⟩] none)
 (.seq (.region [⟨(some 10), .mov (.t 4), none⟩,
  ⟨(some 11), .bin .neq (.t 10) (.c (.int .i64 0)), none⟩] none)
 (.cond (.t 11) (.seq (.region [⟨(some 12), .mov (.t 4), none⟩,
  ⟨(some 2), .mov (.c (.nils)), none⟩,
  ⟨(some 3), .mov (.t 12), none⟩] none)
 (.ret))
 (.skip))))
 (.seq (.seq (.region [⟨(some 13), .faddr 0 (.t 1), none⟩,
  ⟨(some 14), .load none (.t 13), none⟩,
  ⟨(some 15), .bin .gtr (.t 14) (.c (.int .i64 16)), none⟩] none)
 (.cond (.t 15) (.seq (.region [⟨(some 2), .mov (.c (.nils)), none⟩,
  ⟨(some 3), .mov (.c (.int .i64 12)), none⟩] none)
 (.ret))
 (.skip)))
 (.seq (.region [⟨(some 16), .load (some 2) (.t 1), none⟩,
  ⟨(some 17), .call (.c (.fn 49 [] [])) [(.t 16)], none⟩,
  ⟨(some 5), .alloc [.nils], none⟩,
  ⟨none, .store 1 (.t 5) (.t 17), none⟩] none)
 (.seq (.region [⟨(some 6), .alloc [.nils], none⟩] none)
 (.seq (.region [⟨(some 7), .alloc [.nilf], none⟩] none)
 (.seq (.region [⟨(some 18), .mkfn 52 [] [(.t 6), (.t 1), (.t 7), (.t 5)], none⟩,
  ⟨none, .store 1 (.t 7) (.t 18), none⟩] none)
 (.seq (.region [⟨(some 19), .load none (.t 7), none⟩,
  ⟨(some 20), .call (.t 19) [(.c (.nils)), (.c (.int .i64 0)), (.c (.int .u64 0))], none⟩] none)
 (.seq (.region [⟨(some 21), .load none (.t 6), none⟩,
  ⟨(some 2), .mov (.t 21), none⟩,
  ⟨(some 3), .mov (.c (.int .i64 0)), none⟩] none)
 (.ret)))))))))
theorem fn19 : env0.fn 19 = some ⟨22, ic19, [.t 2, .t 3]⟩ := by kernel_rfl
def upd (b l : List Int) : List Int := if l.length > b.length then l else b
def bw (g : Nat → BitVec 64) : Nat → List Int → Nat → BitVec 64 → List Int → List Int
 | 0, _, _, _, b => b
 | m + 1, now, i, h, b =>
  if now.length + (m + 1) > b.length then
   bw g m now (i + 1) h (if h.getLsbD i = true then b else bw g m (now ++ [((i : Nat) : Int)]) (i + 1) (h ||| g i) (upd b (now ++ [((i : Nat) : Int)])))
  else b
theorem zp4 {b l : List Int} {m : Nat} (h1 : b.length ≤ m) (h2 : l.length ≤ m) : (upd b l).length ≤ m := by
 unfold upd
 split <;> assumption
theorem zt8 (g : Nat → BitVec 64) {M : Nat} : ∀ (m : Nat) (now : List Int) (i : Nat) (h : BitVec 64) (b : List Int), now.length + m ≤ M → b.length ≤ M → (bw g m now i h b).length ≤ M
 | 0, _, _, _, _, _, h => h
 | m + 1, now, i, h, b, h1, h2 => by
  rw [bw]
  split
  ·refine zt8 g m _ _ _ _ (by omega) ?_
   split
   ·exact h2
   ·exact zt8 g m _ _ _ _ (by rw [List.length_append, List.length_singleton]; omega) (zp4 h2 (by rw [List.length_append, List.length_singleton]; omega))
  ·exact h2
def bcl (b : List Int) : AV := if b.length = 0 then .nils else vsI b
theorem zt1 (b : List Int) : zuo false (bcl b) = some (.int .i64 (b.length : Nat)) := by
 unfold bcl
 split
 ·rename_i h; rw [h]; rfl
 ·show some (AV.int .i64 ((b.map fun z => ([.int .i64 z] : List AV)).length : Nat)) = _
  rw [List.length_map]
def capB (N : Nat) (s : List (BitVec 64)) (bb sb wb sw : Nat) : List AV := [.mptr bb sb 0, .vptr [.int .i64 (N : Nat), .vs (cUs s)], .mptr wb sw 0, .vptr [zg5 N s]]
structure CB (N : Nat) (s : List (BitVec 64)) (b : List Int) (bb sb wb sw : Nat) (H : HS) : Prop where
 hb : Am.look bb H.heap = some (sb, .cells [bcl b])
 hw : Am.look wb H.heap = some (sw, .cells [.fn 52 [] (capB N s bb sb wb sw)])
 lb : bb < H.next
 lw : wb < H.next
theorem CB.keep {N : Nat} {s : List (BitVec 64)} {b : List Int} {M : Nat → Prop} {bb sb wb sw : Nat} {H H' : HS} (h : CB N s b bb sb wb sw H) (k : Keep M H H') (n2 : ¬ M bb) (n3 : ¬ M wb) : CB N s b bb sb wb sw H' :=
 ⟨(k.look bb n2 h.lb).trans h.hb, (k.look wb n3 h.lw).trans h.hw, Nat.lt_of_lt_of_le h.lb k.next, Nat.lt_of_lt_of_le h.lw k.next⟩
def zjv (N : Nat) (s : List (BitVec 64)) (now : List Int) (first : Nat) (h : BitVec 64) (b : List Int) : List Int := bw (zcf s) (N - first) now first h (upd b now)
def LeftB (N : Nat) (s : List (BitVec 64)) (bb sb wb sw lb sl : Nat) (vs : List Int) (m : Nat) (H : HS) (b : List Int) (H' : HS) : Prop :=
 Keep (fun i => i = bb ∨ i = lb) H H' ∧ CB N s b bb sb wb sw H' ∧ ∃ X, X.length = m ∧ Am.look lb H'.heap = some (sl, .cells (zd9 vs X))
def tB (N : Nat) (s : List (BitVec 64)) (vs : List Int) (first c lb sl : Nat) (h : BitVec 64) (bb sb wb sw : Nat) : List (Nat × AV) :=
 [(0, .ms lb sl 1 0 vs.length (some c)), (1, .int .i64 (first : Nat)), (2, cU h), (3, .mptr bb sb 0), (4, .vptr [.int .i64 (N : Nat), .vs (cUs s)]), (5, .mptr wb sw 0), (6, .vptr [zg5 N s])]
def zfx (N : Nat) (s : List (BitVec 64)) (w0 : World) (N0 bb sb wb sw r : Nat) : Prop :=
 ∀ (vs : List Int) (first c : Nat) (h : BitVec 64) (b : List Int) (X : List AV) (lb sl : Nat) (H : HS), first + r = N → vs.length ≤ first → b.length ≤ 64 → vs.length + X.length = c → CB N s b bb sb wb sw H → Am.look lb H.heap = some (sl, .cells (zd9 vs X)) → lb < H.next → lb ≠ bb → lb ≠ wb →
  Zm Try.prog w0 N0 (some none) ic52 (st 56 (tB N s vs first c lb sl h bb sb wb sw) H.heap H.next H.clk) []
   fun e S' => (e = .normal ∨ e = .ret) ∧ ∃ v, S'.leave.res [] = some v ∧ LeftB N s bb sb wb sw lb sl vs X.length H (zjv N s vs first h b) S'.leave.hs
theorem znn {N : Nat} {s : List (BitVec 64)} {w0 : World} {N0 bb sb wb sw r : Nat} (hS : zfx N s w0 N0 bb sb wb sw r) (vs : List Int) (first c : Nat) (h : BitVec 64) (b : List Int) (X : List AV) (lb sl : Nat) (H : HS) (h1 : first + r = N) (h2 : vs.length ≤ first) (h3 : b.length ≤ 64) (h5 : vs.length + X.length = c) (h6 : CB N s b bb sb wb sw H) (h7 : Am.look lb H.heap = some (sl, .cells (zd9 vs X))) (h8 : lb < H.next) (h10 : lb ≠ bb) (h11 : lb ≠ wb) :
  FT Try.prog w0 N0 52 [.ms lb sl 1 0 vs.length (some c), .int .i64 (first : Nat), cU h, .mptr bb sb 0, .vptr [.int .i64 (N : Nat), .vs (cUs s)], .mptr wb sw 0, .vptr [zg5 N s]] H fun _ H' => LeftB N s bb sb wb sw lb sl vs X.length H (zjv N s vs first h b) H' :=
 zcs env0_ok fn52 (tB N s vs first c lb sl h bb sb wb sw) (by show 7 ≤ 56; decide) rfl (hS vs first c h b X lb sl H h1 h2 h3 h5 h6 h7 h8 h10 h11)
theorem znm {N : Nat} {s : List (BitVec 64)} {w0 : World} {N0 bb sb wb sw r : Nat} (hS : zfx N s w0 N0 bb sb wb sw r) (vs : List Int) (first : Nat) (h : BitVec 64) (b : List Int) (lb sl : Nat) (H : HS) (h1 : first + r = N) (h2 : vs.length ≤ first) (h3 : b.length ≤ 64) (h6 : CB N s b bb sb wb sw H) (h7 : Am.look lb H.heap = some (sl, .cells (vs.map (AV.int .i64)))) (h8 : lb < H.next) (h10 : lb ≠ bb) (h11 : lb ≠ wb) :
  FT Try.prog w0 N0 52 [.ms lb sl 1 0 vs.length none, .int .i64 (first : Nat), cU h, .mptr bb sb 0, .vptr [.int .i64 (N : Nat), .vs (cUs s)], .mptr wb sw 0, .vptr [zg5 N s]] H fun _ H' => Keep (fun i => i = bb ∨ i = lb) H H' ∧ CB N s (zjv N s vs first h b) bb sb wb sw H' := by
 refine zcs env0_ok fn52 [(0, .ms lb sl 1 0 vs.length none), (1, .int .i64 (first : Nat)), (2, cU h), (3, .mptr bb sb 0), (4, .vptr [.int .i64 (N : Nat), .vs (cUs s)]), (5, .mptr wb sw 0), (6, .vptr [zg5 N s])] (by show 7 ≤ 56; decide) rfl ?_
 refine zku 0 rfl h7 (List.length_map ..) fun c hc => ?_
 refine zhr (zaa (l' := tB N s vs first c lb sl h bb sb wb sw) (.cons rfl (.cons rfl (.cons rfl (.cons rfl (.cons rfl (.cons rfl (.cons rfl .nil)))))))) ?_
 have hK : Keep (fun i => i = lb) H ⟨zaz lb (sl, .cells (zd9 vs (List.replicate (c - vs.length) .top))) H.heap, H.next, H.clk⟩ := ⟨Nat.le_refl _, Nat.le_refl _, fun i hi _ => by
  show Am.look i (zaz lb _ H.heap) = _
  rw [za5, if_neg fun e => hi e.symm]⟩
 have hz := hS vs first c h b (List.replicate (c - vs.length) .top) lb sl ⟨zaz lb (sl, .cells (zd9 vs (List.replicate (c - vs.length) .top))) H.heap, H.next, H.clk⟩ h1 h2 h3 (by rw [List.length_replicate]; omega) (h6.keep hK (fun e => h10 e.symm) fun e => h11 e.symm) (by show Am.look lb (zaz lb _ _) = _; rw [za5, if_pos rfl]) h8 h10 h11
 refine zkv hz fun e S' ⟨he, v, hv, hk, hC, _⟩ => ⟨he, v, hv, (Keep.mono hK fun i e => .inr e).trans hk, hC⟩
theorem znl {N : Nat} {s : List (BitVec 64)} {w0 : World} {N0 bb sb wb sw : Nat} (hS : zfx N s w0 N0 bb sb wb sw N) (H : HS) (h6 : CB N s [] bb sb wb sw H) :
  FT Try.prog w0 N0 52 [.nils, .int .i64 0, cU 0, .mptr bb sb 0, .vptr [.int .i64 (N : Nat), .vs (cUs s)], .mptr wb sw 0, .vptr [zg5 N s]] H fun _ H' => Keep (fun i => i = bb) H H' ∧ CB N s (zjv N s [] 0 0 []) bb sb wb sw H' := by
 refine zcs env0_ok fn52 [(0, .nils), (1, .int .i64 0), (2, cU 0), (3, .mptr bb sb 0), (4, .vptr [.int .i64 (N : Nat), .vs (cUs s)]), (5, .mptr wb sw 0), (6, .vptr [zg5 N s])] (by show 7 ≤ 56; decide) rfl ?_
 refine zr4 0 1 rfl ?_
 refine zku 0 rfl zav rfl fun c hc => ?_
 refine zhr (zaa (l' := tB N s [] 0 c H.next H.clk 0 bb sb wb sw) (.cons rfl (.cons rfl (.cons rfl (.cons rfl (.cons rfl (.cons rfl (.cons rfl .nil)))))))) ?_
 rw [zgp]
 have l2 := h6.lb
 have l3 := h6.lw
 have hKn : Keep (fun _ => False) H ⟨(H.next, H.clk, .cells (zd9 [] (List.replicate (c - 0) .top))) :: H.heap, H.next + 1, H.clk + 1⟩ := Keep.new _ _ _
 have hz := hS [] 0 c 0 [] (List.replicate (c - 0) .top) H.next H.clk ⟨(H.next, H.clk, .cells (zd9 [] (List.replicate (c - 0) .top))) :: H.heap, H.next + 1, H.clk + 1⟩ (Nat.zero_add _) (Nat.le_refl _) (Nat.zero_le _) (by rw [List.length_replicate]; simp) (h6.keep hKn (fun h => h) fun h => h) zav (Nat.lt_succ_self _) (by omega) (by omega)
 refine zkv hz fun e S' ⟨he, v, hv, hk, hC, _⟩ => ⟨he, v, hv, ⟨Nat.le_trans (Nat.le_succ _) hk.next, Nat.le_trans (Nat.le_succ _) hk.clk, fun i hi hi2 => (hk.look i (fun h => h.elim hi fun e => by omega) (by show i < H.next + 1; omega)).trans (zak hi2)⟩, hC⟩
end Go.Proofs.Ytknomkcdpcnmaaa
