/-
  EXACT COVERS: the search of setcover.Exact; what it finds.
-/
import Derived.Test.YtknomkcdpcnmaaaEVC
import Derived.Test.YtknomkcdpcnmaaaEVB
namespace Go.Proofs.Ytknomkcdpcnmaaa
open Go Go.Am
def b42_0 : IC := .seq (.seq (.region [⟨(some 44), .mov (.t 10), none⟩,
  ⟨(some 45), .faddr 1 (.t 3), none⟩,
  ⟨(some 46), .load none (.t 45), none⟩,
  ⟨(some 47), .len false (.t 46), none⟩,
  ⟨(some 48), .bin .lss (.t 44) (.t 47), none⟩] none)
 (.cond (.t 48) (.skip)
 (.exit 0)))
 (.seq (.block 1 (.seq (.region [⟨(some 51), .faddr 1 (.t 3), none⟩,
  ⟨(some 52), .load none (.t 51), none⟩,
  ⟨(some 53), .mov (.t 10), none⟩,
  ⟨(some 54), .idxs 1 (.t 52) (.t 53), none⟩,
  ⟨(some 55), .load none (.t 54), none⟩,
  ⟨(some 11), .mov (.t 55), none⟩] none)
 (.seq (.region [⟨(some 56), .mov (.t 11), none⟩,
  ⟨(some 57), .bin .neq (.t 56) (.c (.int .u64 0)), none⟩,
  ⟨(some 58), .mov (.t 57), none⟩,
  ⟨(some 59), .mov (.t 11), some (58, true)⟩,
  ⟨(some 60), .mov (.t 2), some (58, true)⟩,
  ⟨(some 61), .bin .and (.t 59) (.t 60), some (58, true)⟩,
  ⟨(some 62), .bin .eql (.t 61) (.c (.int .u64 0)), some (58, true)⟩,
  ⟨(some 63), .pick (.t 58) (.t 62) (.c (.bool false)), none⟩] none)
 (.cond (.t 63) (.region [⟨(some 64), .load none (.t 6), none⟩,
  ⟨(some 65), .mov (.t 0), none⟩,
  ⟨(some 66), .mov (.t 10), none⟩,
  ⟨(some 67), .bslice 1 1 [.int .i64 0] [(0, 1, (.t 66))], none⟩,
  ⟨(some 68), .append 1 8 [.int .i64 0] (.t 65) (.t 67), none⟩,
  ⟨(some 69), .mov (.t 10), none⟩,
  ⟨(some 70), .bin .add (.t 69) (.c (.int .i64 1)), none⟩,
  ⟨(some 71), .mov (.t 2), none⟩,
  ⟨(some 72), .mov (.t 11), none⟩,
  ⟨(some 73), .bin .or (.t 71) (.t 72), none⟩,
  ⟨(some 74), .call (.t 64) [(.t 68), (.t 70), (.t 73)], none⟩] (some [[], [], [], [2], [1, 3], [], [5], [], [], [7, 8], [0, 4, 6, 9, 4]]))
 (.skip)))))
 (.region [⟨(some 49), .mov (.t 10), none⟩,
  ⟨(some 50), .bin .add (.t 49) (.c (.int .i64 1)), none⟩,
  ⟨(some 10), .mov (.t 50), none⟩] none))
-- pneumatic/setcover.Exact$1
def ic42 : IC := .seq (.seq (.region [⟨(some 12), .mov (.t 2), none⟩,
  ⟨(some 13), .faddr 0 (.t 3), none⟩,
  ⟨(some 14), .load none (.t 13), none⟩,
  ⟨(some 15), .call (.c (.fn 43 [] [])) [(.t 14)], none⟩,
  ⟨(some 16), .bin .eql (.t 12) (.t 15), none⟩] none)
 (.cond (.t 16) (.seq (.seq (.region [⟨(some 17), .load none (.t 4), none⟩,
  ⟨(some 18), .bin .eql (.t 17) (.c (.int .i64 0)), none⟩,
  ⟨(some 19), .mov (.t 18), none⟩,
  ⟨(some 20), .mov (.t 0), some (19, false)⟩,
  ⟨(some 21), .len false (.t 20), some (19, false)⟩,
  ⟨(some 22), .load none (.t 5), some (19, false)⟩,
  ⟨(some 23), .len false (.t 22), some (19, false)⟩,
  ⟨(some 24), .bin .lss (.t 21) (.t 23), some (19, false)⟩,
  ⟨(some 25), .pick (.t 19) (.c (.bool true)) (.t 24), none⟩,
  ⟨(some 26), .mov (.t 25), none⟩,
  ⟨(some 27), .mov (.t 0), some (26, false)⟩,
  ⟨(some 28), .len false (.t 27), some (26, false)⟩,
  ⟨(some 29), .load none (.t 5), some (26, false)⟩,
  ⟨(some 30), .len false (.t 29), some (26, false)⟩,
  ⟨(some 31), .bin .eql (.t 28) (.t 30), some (26, false)⟩,
  ⟨(some 32), .mov (.t 31), some (26, false)⟩,
  ⟨(some 33), .mov (.t 0), some (32, true)⟩,
  ⟨(some 34), .load none (.t 5), some (32, true)⟩,
  ⟨(some 35), .call (.c (.fn 44 [] [])) [(.t 33), (.t 34)], some (32, true)⟩,
  ⟨(some 36), .bin .lss (.t 35) (.c (.int .i64 0)), some (32, true)⟩,
  ⟨(some 37), .pick (.t 32) (.t 36) (.c (.bool false)), some (26, false)⟩,
  ⟨(some 38), .pick (.t 26) (.c (.bool true)) (.t 37), none⟩] none)
 (.cond (.t 38) (.region [⟨(some 39), .mov (.t 0), none⟩,
  ⟨(some 40), .call (.c (.fn 45 [] [])) [(.t 39)], none⟩,
  ⟨none, .store 1 (.t 5) (.t 40), none⟩] none)
 (.skip)))
 (.seq (.region [⟨(some 41), .load none (.t 4), none⟩,
  ⟨(some 42), .bin .add (.t 41) (.c (.int .i64 1)), none⟩,
  ⟨none, .store 1 (.t 4) (.t 42), none⟩] none)
 (.ret)))
 (.skip)))
 (.seq (.region [⟨(some 43), .mov (.t 1), none⟩,
  ⟨(some 10), .mov (.t 43), none⟩] none)
 (.block 0 (.loop b42_0)))
theorem fn42 : env0.fn 42 = some ⟨75, ic42, []⟩ := by kernel_rfl
-- pneumatic/setcover.Exact
def ic13 : IC := .seq (.region [⟨(some 1), .box (.t 0), none⟩,
  ⟨(some 2), .mov (.c (.nils)), none⟩,
  ⟨(some 3), .mov (.c (.int .i64 0)), none⟩,
  ⟨(some 4), .mov (.c (.int .i64 0)), none⟩] none)
 (.seq (.seq (.region [⟨(some 9), .load (some 2) (.t 1), none⟩,
  ⟨(some 10), .call (.c (.fn 41 [] [])) [(.t 9)], none⟩,
  ⟨(some 5), .mov (.t 10), none⟩] none)
 (.seq (.region [⟨(some 11), .mov (.t 5), none⟩,
  ⟨(some 12), .bin .neq (.t 11) (.c (.int .i64 0)), none⟩] none)
 (.cond (.t 12) (.seq (.region [⟨(some 13), .mov (.t 5), none⟩,
  ⟨(some 2), .mov (.c (.nils)), none⟩,
  ⟨(some 3), .mov (.c (.int .i64 0)), none⟩,
  ⟨(some 4), .mov (.t 13), none⟩] none)
 (.ret))
 (.skip))))
 (.seq (.region [⟨(some 6), .alloc [.nils], none⟩] none)
 (.seq (.region [⟨(some 7), .alloc [.int .i64 0], none⟩,
  ⟨none, .store 1 (.t 7) (.c (.int .i64 0)), none⟩] none)
 (.seq (.region [⟨(some 8), .alloc [.nilf], none⟩] none)
 (.seq (.region [⟨(some 14), .mkfn 42 [] [(.t 1), (.t 7), (.t 6), (.t 8)], none⟩,
  ⟨none, .store 1 (.t 8) (.t 14), none⟩] none)
 (.seq (.region [⟨(some 15), .load none (.t 8), none⟩,
  ⟨(some 16), .call (.t 15) [(.c (.nils)), (.c (.int .i64 0)), (.c (.int .u64 0))], none⟩] none)
 (.seq (.seq (.region [⟨(some 17), .load none (.t 7), none⟩,
  ⟨(some 18), .bin .eql (.t 17) (.c (.int .i64 0)), none⟩] none)
 (.cond (.t 18) (.seq (.region [⟨(some 2), .mov (.c (.nils)), none⟩,
  ⟨(some 3), .mov (.c (.int .i64 0)), none⟩,
  ⟨(some 4), .mov (.c (.int .i64 6)), none⟩] none)
 (.ret))
 (.skip)))
 (.seq (.region [⟨(some 19), .load none (.t 6), none⟩,
  ⟨(some 20), .load none (.t 7), none⟩,
  ⟨(some 2), .mov (.t 19), none⟩,
  ⟨(some 3), .mov (.t 20), none⟩,
  ⟨(some 4), .mov (.c (.int .i64 0)), none⟩] (some [[], [], [0, 0], [1, 2, 0, 1, 2], [3, 0, 1, 2, 3]]))
 (.ret)))))))))
theorem fn13 : env0.fn 13 = some ⟨21, ic13, [.t 2, .t 3, .t 4]⟩ := by kernel_rfl
def lvs (A : BitVec 64) : List (BitVec 64) → Nat → BitVec 64 → List (List Int)
 | [], _, _ => []
 | x :: xs, i, h => (if x != 0#64 && x &&& h == 0#64 then (if h ||| x == A then [[]] else lvs A xs (i + 1) (h ||| x)).map fun c => ((i : Nat) : Int) :: c else []) ++ lvs A xs (i + 1) h
theorem zol (A : BitVec 64) : ∀ (t : List (BitVec 64)) (i : Nat) (h : BitVec 64), (lvs A t i h).length + 1 ≤ 2 ^ t.length
 | [], _, _ => Nat.le_refl _
 | x :: xs, i, h => by
  have h1 := zol A xs (i + 1) h
  have h2 := zol A xs (i + 1) (h ||| x)
  rw [lvs, List.length_append, List.length_cons, Nat.pow_succ]
  split
  ·rw [List.length_map]
   split
   ·simp only [List.length_singleton]; omega
   ·omega
  ·simp only [List.length_nil]; omega
def zbu (b : List Int × Nat) (l : List Int) : List Int × Nat :=
 (if b.2 = 0 then l else if l.length < b.1.length then l else if l.length = b.1.length then (if zmh l b.1 < 0 then l else b.1) else b.1, b.2 + 1)
theorem zis : ∀ (E : List (List Int)) (b : List Int × Nat), (E.foldl zbu b).2 = b.2 + E.length
 | [], b => rfl
 | l :: E, b => by
  rw [List.foldl_cons, zis E, List.length_cons]
  show b.2 + 1 + _ = _
  omega
theorem zit {m : Nat} : ∀ (E : List (List Int)) (b : List Int × Nat), (∀ l ∈ E, l.length ≤ m) → b.1.length ≤ m → (E.foldl zbu b).1.length ≤ m
 | [], b, _, h => h
 | l :: E, b, hE, h => by
  rw [List.foldl_cons]
  refine zit E _ (fun x hx => hE x (List.mem_cons_of_mem _ hx)) ?_
  have := hE l (List.mem_cons_self ..)
  unfold zbu
  show (if b.2 = 0 then l else _).length ≤ m
  repeat' split
  all_goals assumption
def bcell (b : List Int × Nat) : AV := if b.2 = 0 then .nils else vsI b.1
def capE (n : Int) (s : List (BitVec 64)) (nb sn bb sb wb sw : Nat) : List AV := [.vptr [.int .i64 n, .vs (cUs s)], .mptr nb sn 0, .mptr bb sb 0, .mptr wb sw 0]
structure CE (n : Int) (s : List (BitVec 64)) (b : List Int × Nat) (nb sn bb sb wb sw : Nat) (H : HS) : Prop where
 hn : Am.look nb H.heap = some (sn, .cells [.int .i64 (b.2 : Nat)])
 hb : Am.look bb H.heap = some (sb, .cells [bcell b])
 hw : Am.look wb H.heap = some (sw, .cells [.fn 42 [] (capE n s nb sn bb sb wb sw)])
 ln : nb < H.next
 lb : bb < H.next
 lw : wb < H.next
theorem CE.keep {n : Int} {s : List (BitVec 64)} {b : List Int × Nat} {M : Nat → Prop} {nb sn bb sb wb sw : Nat} {H H' : HS} (h : CE n s b nb sn bb sb wb sw H) (k : Keep M H H') (n1 : ¬ M nb) (n2 : ¬ M bb) (n3 : ¬ M wb) : CE n s b nb sn bb sb wb sw H' :=
 ⟨(k.look nb n1 h.ln).trans h.hn, (k.look bb n2 h.lb).trans h.hb, (k.look wb n3 h.lw).trans h.hw, Nat.lt_of_lt_of_le h.ln k.next, Nat.lt_of_lt_of_le h.lb k.next, Nat.lt_of_lt_of_le h.lw k.next⟩
def zd6 (A : BitVec 64) (s : List (BitVec 64)) (first : Nat) (h : BitVec 64) : List (List Int) := if h == A then [[]] else lvs A (s.drop first) first h
def zr5 (n : Int) (s : List (BitVec 64)) (nb sn bb sb wb sw lb sl : Nat) (vs : List Int) (m : Nat) (H : HS) (b : List Int × Nat) (H' : HS) : Prop :=
 Keep (fun i => i = nb ∨ i = bb ∨ i = lb) H H' ∧ CE n s b nb sn bb sb wb sw H' ∧ ∃ X, X.length = m ∧ Am.look lb H'.heap = some (sl, .cells (zd9 vs X))
def tE (n : Int) (s : List (BitVec 64)) (vs : List Int) (first c lb sl : Nat) (h : BitVec 64) (nb sn bb sb wb sw : Nat) : List (Nat × AV) :=
 [(0, .ms lb sl 1 0 vs.length (some c)), (1, .int .i64 (first : Nat)), (2, cU h), (3, .vptr [.int .i64 n, .vs (cUs s)]), (4, .mptr nb sn 0), (5, .mptr bb sb 0), (6, .mptr wb sw 0)]
def zgw (n : Int) (s : List (BitVec 64)) (w0 : World) (N0 nb sn bb sb wb sw r : Nat) : Prop :=
 ∀ (vs : List Int) (first c : Nat) (h : BitVec 64) (b : List Int × Nat) (X : List AV) (lb sl : Nat) (H : HS), first + r = s.length → vs.length ≤ first → b.1.length ≤ 64 → b.2 + (zd6 (zce n) s first h).length ≤ 1000000 → vs.length + X.length = c → CE n s b nb sn bb sb wb sw H → Am.look lb H.heap = some (sl, .cells (zd9 vs X)) → lb < H.next → lb ≠ nb → lb ≠ bb → lb ≠ wb →
  Zm Try.prog w0 N0 (some none) ic42 (st 75 (tE n s vs first c lb sl h nb sn bb sb wb sw) H.heap H.next H.clk) []
   fun e S' => (e = .normal ∨ e = .ret) ∧ ∃ v, S'.leave.res [] = some v ∧ zr5 n s nb sn bb sb wb sw lb sl vs X.length H ((beh vs (zd6 (zce n) s first h)).foldl zbu b) S'.leave.hs
theorem zp0 {n : Int} {s : List (BitVec 64)} {w0 : World} {N0 nb sn bb sb wb sw r : Nat} (hS : zgw n s w0 N0 nb sn bb sb wb sw r) (vs : List Int) (first c : Nat) (h : BitVec 64) (b : List Int × Nat) (X : List AV) (lb sl : Nat) (H : HS) (h1 : first + r = s.length) (h2 : vs.length ≤ first) (h3 : b.1.length ≤ 64) (h4 : b.2 + (zd6 (zce n) s first h).length ≤ 1000000) (h5 : vs.length + X.length = c) (h6 : CE n s b nb sn bb sb wb sw H) (h7 : Am.look lb H.heap = some (sl, .cells (zd9 vs X))) (h8 : lb < H.next) (h9 : lb ≠ nb) (h10 : lb ≠ bb) (h11 : lb ≠ wb) :
  FT Try.prog w0 N0 42 [.ms lb sl 1 0 vs.length (some c), .int .i64 (first : Nat), cU h, .vptr [.int .i64 n, .vs (cUs s)], .mptr nb sn 0, .mptr bb sb 0, .mptr wb sw 0] H fun _ H' => zr5 n s nb sn bb sb wb sw lb sl vs X.length H ((beh vs (zd6 (zce n) s first h)).foldl zbu b) H' :=
 zcs env0_ok fn42 (tE n s vs first c lb sl h nb sn bb sb wb sw) (by show 7 ≤ 75; decide) rfl (hS vs first c h b X lb sl H h1 h2 h3 h4 h5 h6 h7 h8 h9 h10 h11)
theorem zoz {n : Int} {s : List (BitVec 64)} {w0 : World} {N0 nb sn bb sb wb sw r : Nat} (hS : zgw n s w0 N0 nb sn bb sb wb sw r) (vs : List Int) (first : Nat) (h : BitVec 64) (b : List Int × Nat) (lb sl : Nat) (H : HS) (h1 : first + r = s.length) (h2 : vs.length ≤ first) (h3 : b.1.length ≤ 64) (h4 : b.2 + (zd6 (zce n) s first h).length ≤ 1000000) (h6 : CE n s b nb sn bb sb wb sw H) (h7 : Am.look lb H.heap = some (sl, .cells (vs.map (AV.int .i64)))) (h8 : lb < H.next) (h9 : lb ≠ nb) (h10 : lb ≠ bb) (h11 : lb ≠ wb) :
  FT Try.prog w0 N0 42 [.ms lb sl 1 0 vs.length none, .int .i64 (first : Nat), cU h, .vptr [.int .i64 n, .vs (cUs s)], .mptr nb sn 0, .mptr bb sb 0, .mptr wb sw 0] H fun _ H' => Keep (fun i => i = nb ∨ i = bb ∨ i = lb) H H' ∧ CE n s ((beh vs (zd6 (zce n) s first h)).foldl zbu b) nb sn bb sb wb sw H' := by
 refine zcs env0_ok fn42 [(0, .ms lb sl 1 0 vs.length none), (1, .int .i64 (first : Nat)), (2, cU h), (3, .vptr [.int .i64 n, .vs (cUs s)]), (4, .mptr nb sn 0), (5, .mptr bb sb 0), (6, .mptr wb sw 0)] (by show 7 ≤ 75; decide) rfl ?_
 refine zku 0 rfl h7 (List.length_map ..) fun c hc => ?_
 refine zhr (zaa (l' := tE n s vs first c lb sl h nb sn bb sb wb sw) (.cons rfl (.cons rfl (.cons rfl (.cons rfl (.cons rfl (.cons rfl (.cons rfl .nil)))))))) ?_
 have hK : Keep (fun i => i = lb) H ⟨zaz lb (sl, .cells (zd9 vs (List.replicate (c - vs.length) .top))) H.heap, H.next, H.clk⟩ := ⟨Nat.le_refl _, Nat.le_refl _, fun i hi _ => by
  show Am.look i (zaz lb _ H.heap) = _
  rw [za5, if_neg fun e => hi e.symm]⟩
 have hz := hS vs first c h b (List.replicate (c - vs.length) .top) lb sl ⟨zaz lb (sl, .cells (zd9 vs (List.replicate (c - vs.length) .top))) H.heap, H.next, H.clk⟩ h1 h2 h3 h4 (by rw [List.length_replicate]; omega) (h6.keep hK (fun e => h9 e.symm) (fun e => h10 e.symm) fun e => h11 e.symm) (by show Am.look lb (zaz lb _ _) = _; rw [za5, if_pos rfl]) h8 h9 h10 h11
 refine zkv hz fun e S' ⟨he, v, hv, hk, hC, _⟩ => ⟨he, v, hv, (Keep.mono hK fun i e => .inr (.inr e)).trans hk, hC⟩
section
variable {w0 : World} {N0 n nx ck : Nat} {k : List Fr} {Q : Exit → AS → Prop} {ios : List Opr} {mk : List (Nat × Nat)} {md : Md} {l : List (Nat × AV)} {hp : List (Nat × Nat × AObj)} {P : Program}
theorem zqg {d : Nat} {f : FuncId} {args : List Arg} {vs gs : List AV} {v : AV} (ha : zgy args l = some vs) (hv : vs.map ((st n l hp nx ck mk).view VD) = gs) (hc : PFn P f gs v)
  (go : Om P w0 N0 md (KnP P w0 N0) ios (st n ((d, v) :: l) hp nx ck mk) k Q) : Om P w0 N0 md (KnP P w0 N0) (⟨some d, .call (.c (.fn f [] [])) args, none⟩ :: ios) (st n l hp nx ck mk) k Q :=
 ⟨fun hall => .ext rfl (fun rd g => zsf rfl ((zfz args).trans ha) (by rw [hv]; exact hc)) (fun S1 v1 hF => by rw [hF.1]; exact (all_cons hall).1) fun S1 v1 hF => by
  obtain ⟨rfl, rfl⟩ := hF
  exact go.ok (all_cons hall).2⟩
end
end Go.Proofs.Ytknomkcdpcnmaaa
