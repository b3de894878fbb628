/-
  C1, C2, C3, C4 in one text.
-/
import Derived.Test.YtoiblgbaeglgoaaWQD
import Derived.Test.YtoiblgbaeglgoaaWA9
namespace Go.Proofs.Ytoiblgbaeglgoaa
open Go Go.Am
def ze0 : List (List Int) → List (List Int)
 | [] => [[]]
 | c :: cs => c.flatMap fun x => (ze0 cs).map (x :: ·)
def inc : List (List Int) → List Nat → Bool × List Nat
 | c :: cs, d :: ds => if (inc cs ds).1 = true then (if d + 1 < c.length then (false, (d + 1) :: (inc cs ds).2) else (true, 0 :: (inc cs ds).2)) else (false, d :: (inc cs ds).2)
 | _, _ => (true, [])
def rest : List (List Int) → List Nat → List (List Int)
 | c :: cs, d :: ds => (rest cs ds).map (c.getD d 0 :: ·) ++ (c.drop (d + 1)).flatMap fun x => (ze0 cs).map (x :: ·)
 | _, _ => [[]]
def pick : List (List Int) → List Nat → List Int
 | c :: cs, d :: ds => c.getD d 0 :: pick cs ds
 | _, _ => []
def zk1 : List (List Int) → List Nat → Prop
 | c :: cs, d :: ds => d < c.length ∧ zk1 cs ds
 | [], [] => True
 | _, _ => False
def zhw (cs : List (List Int)) : List Nat := List.replicate cs.length 0
theorem zlf : ∀ {cs : List (List Int)} {ds : List Nat}, zk1 cs ds → ds.length = cs.length
 | [], [], _ => rfl
 | [], _ :: _, h => h.elim
 | _ :: _, [], h => h.elim
 | c :: cs, d :: ds, h => by rw [List.length_cons, List.length_cons, zlf h.2]
theorem zle : ∀ {cs : List (List Int)} {ds : List Nat}, zk1 cs ds → ∀ (i : Nat) (h1 : i < cs.length) (h2 : i < ds.length), ds[i] < cs[i].length
 | [], _, _, i, h1, _ => absurd h1 (Nat.not_lt_zero _)
 | _ :: _, [], h, _, _, _ => h.elim
 | c :: cs, d :: ds, h, 0, _, _ => h.1
 | c :: cs, d :: ds, h, i + 1, h1, h2 => zle h.2 i (by simpa using h1) (by simpa using h2)
theorem zhc : ∀ {cs : List (List Int)}, (∀ c ∈ cs, c ≠ []) → zk1 cs (zhw cs)
 | [], _ => trivial
 | c :: _cs, h => ⟨List.length_pos_iff.2 (h c (List.mem_cons_self ..)), zhc fun c hc => h c (List.mem_cons_of_mem _ hc)⟩
theorem zeo : ∀ {cs : List (List Int)}, (∀ c ∈ cs, c ≠ []) → rest cs (zhw cs) = ze0 cs
 | [], _ => rfl
 | c :: cs, h => by
  have ih := zeo (cs := cs) fun c hc => h c (List.mem_cons_of_mem _ hc)
  show rest (c :: cs) (0 :: zhw cs) = _
  obtain ⟨x, xs, rfl⟩ := List.exists_cons_of_ne_nil (h c (List.mem_cons_self ..))
  rw [rest, ih, ze0, List.flatMap_cons]
  rfl
theorem zov : ∀ {cs : List (List Int)} {ds : List Nat}, zk1 cs ds → (inc cs ds).2.length = cs.length
 | [], [], _ => rfl
 | [], _ :: _, h => h.elim
 | _ :: _, [], h => h.elim
 | c :: cs, d :: ds, h => by
  have := zov h.2
  rw [inc]
  (repeat' split) <;> simp [this]
theorem zgm : ∀ {cs : List (List Int)} {ds : List Nat}, zk1 cs ds → (inc cs ds).1 = true → (inc cs ds).2 = zhw cs ∧ rest cs ds = [pick cs ds]
 | [], [], _, _ => ⟨rfl, rfl⟩
 | [], _ :: _, h, _ => h.elim
 | _ :: _, [], h, _ => h.elim
 | c :: cs, d :: ds, h, k => by
  rw [inc] at k ⊢
  by_cases h1 : (inc cs ds).1 = true
  ·rw [if_pos h1] at k ⊢
   by_cases h2 : d + 1 < c.length
   ·rw [if_pos h2] at k; cases k
   ·rw [if_neg h2]
    obtain ⟨g1, g2⟩ := zgm h.2 h1
    refine ⟨by rw [g1]; rfl, ?_⟩
    rw [rest, g2, pick, List.drop_of_length_le (by omega)]
    rfl
  ·rw [if_neg h1] at k; cases k
theorem zgl : ∀ {cs : List (List Int)} {ds : List Nat}, zk1 cs ds → (∀ c ∈ cs, c ≠ []) → (inc cs ds).1 = false → zk1 cs (inc cs ds).2 ∧ rest cs ds = pick cs ds :: rest cs (inc cs ds).2 ∧ (inc cs ds).2 ≠ zhw cs
 | [], [], _, _, k => by cases k
 | [], _ :: _, h, _, _ => h.elim
 | _ :: _, [], h, _, _ => h.elim
 | c :: cs, d :: ds, h, hne, k => by
  have hne' : ∀ c ∈ cs, c ≠ [] := fun c hc => hne c (List.mem_cons_of_mem _ hc)
  rw [inc] at k ⊢
  by_cases h1 : (inc cs ds).1 = true
  ·rw [if_pos h1] at k ⊢
   by_cases h2 : d + 1 < c.length
   ·rw [if_pos h2]
    obtain ⟨g1, g2⟩ := zgm h.2 h1
    refine ⟨⟨h2, by rw [g1]; exact zhc hne'⟩, ?_, fun e => by injection e with e; omega⟩
    rw [rest, g2, g1, pick, rest, zeo hne', List.drop_eq_getElem_cons h2, List.flatMap_cons, List.getD_eq_getElem?_getD, List.getElem?_eq_getElem h.1, List.getD_eq_getElem?_getD, List.getElem?_eq_getElem h2]
    rfl
   ·rw [if_neg h2] at k; cases k
  ·rw [if_neg h1]
   have h1 : (inc cs ds).1 = false := by simpa using h1
   obtain ⟨g1, g2, g3⟩ := zgl h.2 hne' h1
   refine ⟨⟨h.1, g1⟩, ?_, fun e => g3 (by injection e)⟩
   rw [rest, g2, rest, pick]
   rfl
theorem inc_at : ∀ {cs : List (List Int)} {ds : List Nat} (i : Nat), zk1 cs ds → (inc (cs.drop i) (ds.drop i)).1 = false → inc cs ds = (false, ds.take i ++ (inc (cs.drop i) (ds.drop i)).2)
 | cs, ds, 0, _, h => by
  rw [List.drop_zero, List.drop_zero] at h ⊢
  rw [List.take_zero, List.nil_append]
  exact Prod.ext h rfl
 | [], [], i + 1, _, h => by simp [inc] at h
 | [], _ :: _, _ + 1, hf, _ => hf.elim
 | _ :: _, [], _ + 1, hf, _ => hf.elim
 | c :: cs, d :: ds, i + 1, hf, h => by
  rw [List.drop_succ_cons, List.drop_succ_cons] at h ⊢
  rw [inc, inc_at i hf.2 h, if_neg (by simp), List.take_succ_cons]
  rfl
theorem zie : ∀ {cs : List (List Int)} {ds : List Nat}, zk1 cs ds → (pick cs ds).length = cs.length
 | [], [], _ => rfl
 | [], _ :: _, h => h.elim
 | _ :: _, [], h => h.elim
 | c :: cs, d :: ds, h => by rw [pick, List.length_cons, zie h.2, List.length_cons]
theorem zqn : ∀ {cs : List (List Int)} {ds : List Nat}, zk1 cs ds → ∀ (i : Nat) (h1 : i < cs.length) (h2 : i < ds.length), (pick cs ds)[i]? = some (cs[i].getD ds[i] 0)
 | [], _, _, i, h1, _ => absurd h1 (Nat.not_lt_zero _)
 | _ :: _, [], h, _, _, _ => h.elim
 | c :: cs, d :: ds, h, 0, _, _ => rfl
 | c :: cs, d :: ds, h, i + 1, h1, h2 => by
  rw [pick, List.getElem?_cons_succ]
  exact zqn h.2 i (by simpa using h1) (by simpa using h2)
def zj7 {α σ τ : Type} (step : σ → α → σ ⊕ τ) : List α → σ → σ ⊕ τ
 | [], s => .inl s
 | x :: xs, s => match step s x with
  | .inr t => .inr t
  | .inl s' => zj7 step xs s'
def Along {α σ τ : Type} (step : σ → α → σ ⊕ τ) (Pr : σ → α → Prop) : List α → σ → Prop
 | [], _ => True
 | x :: xs, s => Pr s x ∧ ∀ s', step s x = .inl s' → Along step Pr xs s'
end Go.Proofs.Ytoiblgbaeglgoaa
namespace Go.Proofs.Ytoiblgbaeglgoaa
open Go Go.Am
def zsr : IC := .seq (.region [⟨(some 14), .bin .lss (.t 13) (.t 12), none⟩] none)
 (.seq (.cond (.t 14) (.skip)
 (.exit 2))
 (.seq (.block 3 (.seq (.region [⟨(some 15), .mov (.t 13), none⟩,
  ⟨(some 16), .idxs 1 (.t 11) (.t 13), none⟩,
  ⟨(some 17), .load none (.t 16), none⟩,
  ⟨(some 6), .mov (.t 15), none⟩,
  ⟨(some 7), .mov (.t 17), none⟩] none)
 (.region [⟨(some 18), .mov (.t 5), none⟩,
  ⟨(some 19), .mov (.t 7), none⟩,
  ⟨(some 20), .mov (.t 6), none⟩,
  ⟨(some 21), .idxarr 6 1 (.t 3) (.t 20), none⟩,
  ⟨(some 22), .load none (.t 21), none⟩,
  ⟨(some 23), .idxs 1 (.t 19) (.t 22), none⟩,
  ⟨(some 24), .load none (.t 23), none⟩,
  ⟨(some 25), .bslice 1 1 [.int .i64 0] [(0, 1, (.t 24))], none⟩,
  ⟨(some 26), .append 1 8 [.int .i64 0] (.t 18) (.t 25), none⟩,
  ⟨(some 5), .mov (.t 26), none⟩] none)))
 (.region [⟨(some 27), .bin .add (.t 13) (.c (.int .i64 1)), none⟩,
  ⟨(some 13), .mov (.t 27), none⟩] none)))
def zss : IC := .seq (.seq (.region [⟨(some 35), .mov (.t 8), none⟩,
  ⟨(some 36), .bin .geq (.t 35) (.c (.int .i64 0)), none⟩] none)
 (.cond (.t 36) (.skip)
 (.exit 4)))
 (.seq (.block 5 (.seq (.seq (.region [⟨(some 39), .mov (.t 8), none⟩,
  ⟨(some 40), .idxarr 6 1 (.t 3) (.t 39), none⟩,
  ⟨(some 41), .load none (.t 40), none⟩,
  ⟨(some 42), .bin .add (.t 41) (.c (.int .i64 1)), none⟩,
  ⟨(some 43), .idxarr 6 1 (.t 3) (.t 39), none⟩,
  ⟨none, .store 1 (.t 43) (.t 42), none⟩] none)
 (.seq (.region [⟨(some 44), .mov (.t 8), none⟩,
  ⟨(some 45), .idxarr 6 1 (.t 3) (.t 44), none⟩,
  ⟨(some 46), .load none (.t 45), none⟩,
  ⟨(some 47), .load none (.t 1), none⟩,
  ⟨(some 48), .mov (.t 8), none⟩,
  ⟨(some 49), .idxs 1 (.t 47) (.t 48), none⟩,
  ⟨(some 50), .load none (.t 49), none⟩,
  ⟨(some 51), .len false (.t 50), none⟩,
  ⟨(some 52), .bin .lss (.t 46) (.t 51), none⟩] (some [[], [0], [1], [], [], [3, 4], [5], [6], [2, 7]]))
 (.cond (.t 52) (.exit 4)
 (.skip))))
 (.region [⟨(some 53), .mov (.t 8), none⟩,
  ⟨(some 54), .idxarr 6 1 (.t 3) (.t 53), none⟩,
  ⟨none, .store 1 (.t 54) (.c (.int .i64 0)), none⟩] none)))
 (.region [⟨(some 37), .mov (.t 8), none⟩,
  ⟨(some 38), .bin .sub (.t 37) (.c (.int .i64 1)), none⟩,
  ⟨(some 8), .mov (.t 38), none⟩] none))
def b130_0 : IC := .seq (.block 1 (.seq (.region [⟨(some 5), .mov (.c (.nils)), none⟩] none)
 (.seq (.seq (.region [⟨(some 11), .load none (.t 1), none⟩,
  ⟨(some 12), .len false (.t 11), none⟩,
  ⟨(some 13), .mov (.c (.int .i64 0)), none⟩] none)
 (.block 2 (.loop zsr)))
 (.seq (.seq (.region [⟨(some 28), .mov (.t 0), none⟩,
  ⟨(some 29), .mov (.t 5), none⟩,
  ⟨(some 30), .call (.t 28) [(.t 29)], none⟩,
  ⟨(some 31), .un .not (.t 30), none⟩] none)
 (.cond (.t 31) (.ret)
 (.skip)))
 (.seq (.seq (.region [⟨(some 32), .load none (.t 1), none⟩,
  ⟨(some 33), .len false (.t 32), none⟩,
  ⟨(some 34), .bin .sub (.t 33) (.c (.int .i64 1)), none⟩,
  ⟨(some 8), .mov (.t 34), none⟩] none)
 (.block 4 (.loop zss)))
 (.seq (.region [⟨(some 55), .load (some 6) (.t 3), none⟩,
  ⟨(some 56), .load (some 6) (.t 4), none⟩,
  ⟨(some 57), .eqs false [(0, .int), (1, .int), (2, .int), (3, .int), (4, .int), (5, .int)] (.t 55) (.t 56), none⟩] none)
 (.cond (.t 57) (.ret)
 (.skip))))))))
 (.seq (.region [⟨(some 58), .load (some 6) (.t 4), none⟩] none)
 (.region [⟨(some 4), .alloc [.int .i64 0, .int .i64 0, .int .i64 0, .int .i64 0, .int .i64 0, .int .i64 0], none⟩,
  ⟨none, .store 6 (.t 4) (.t 58), none⟩] none))
-- pneumatic/guard.combinations$1
def ic130 : IC := .seq (.region [⟨(some 9), .build [.int .i64 0, .int .i64 0, .int .i64 0, .int .i64 0, .int .i64 0, .int .i64 0] [], none⟩,
  ⟨(some 3), .alloc [.int .i64 0, .int .i64 0, .int .i64 0, .int .i64 0, .int .i64 0, .int .i64 0], none⟩,
  ⟨none, .store 6 (.t 3) (.t 9), none⟩] none)
 (.seq (.region [⟨(some 10), .load (some 6) (.t 3), none⟩,
  ⟨(some 4), .alloc [.int .i64 0, .int .i64 0, .int .i64 0, .int .i64 0, .int .i64 0, .int .i64 0], none⟩,
  ⟨none, .store 6 (.t 4) (.t 10), none⟩] none)
 (.block 0 (.loop b130_0)))
theorem fn130 : env0.fn 130 = some ⟨59, ic130, []⟩ := by kernel_rfl
def css (cs : List (List Int)) : AV := .vs (cs.map fun c => [vsI c])
def dg (ds : List Nat) : List AV := (ds ++ List.replicate (6 - ds.length) 0).map fun d => .int .i64 (d : Nat)
theorem zq3 {ds : List Nat} (h : ds.length ≤ 6) : (dg ds).length = 6 := by simp [dg]; omega
theorem zto {ds : List Nat} {i : Nat} (h : i < ds.length) : (dg ds)[0 + ((i : Nat) : Int).toNat * 1]? = some (.int .i64 (ds[i] : Nat)) := by
 rw [Int.toNat_natCast, Nat.mul_one, Nat.zero_add, dg, List.getElem?_map, List.getElem?_append_left h, List.getElem?_eq_getElem h]
 rfl
theorem dg_set {ds : List Nat} {i : Nat} (h : i < ds.length) (z : Nat) : (dg ds).set (0 + ((i : Nat) : Int).toNat * 1) (.int .i64 (z : Nat)) = dg (ds.set i z) := by
 rw [Int.toNat_natCast, Nat.mul_one, Nat.zero_add, dg, dg, List.length_set, ← List.set_append_left _ _ h, List.map_set]
theorem ziz {cs : List (List Int)} {i : Nat} (h : i < cs.length) : (cs.map fun c => ([vsI c] : List AV))[((i : Nat) : Int).toNat]? = some [vsI cs[i]] := by
 rw [Int.toNat_natCast, List.getElem?_map, List.getElem?_eq_getElem h]
 rfl
theorem ztr {n nx ck id sp : Nat} {l : List (Nat × AV)} {hp : List (Nat × Nat × AObj)} {mk : List (Nat × Nat)} {v : AV} {cap : Option Nat} (h : Am.look id hp = some (sp, .cells [v])) : (st n l hp nx ck mk).elems 1 (.ms id sp 1 0 1 cap) = some [[v]] := by
 show (match Am.look id hp with | some (st', .cells cs) => _ | _ => none) = _
 rw [h]
 simp [zcp]
theorem zhe {σ : Type} {M : Nat → Prop} {I : σ → HS → Prop} (hl : Local M I) {s : σ} {H H' : HS} (h : I s H) (k : Keep (fun i => H.next ≤ i) H H') : I s H' :=
 hl.of s H H' h k.next fun i hm => k.look i (by have := hl.lt s H h i hm; omega) (hl.lt s H h i hm)
section
variable {w0 : World} {N0 : Nat} {k : List Fr} {Q : Exit → AS → Prop}
set_option maxHeartbeats 2000000 in
theorem loop80_2 {y : IC} {a sa b sb id sp : Nat} {cs : List (List Int)} {ds : List Nat} {H : HS} (hf : zk1 cs ds) (hn : cs.length ≤ 6) (ha : Am.look a H.heap = some (sa, .cells (dg ds))) (hla : a < H.next)
  (fin : ∀ H1 sl, Keep (fun i => H.next ≤ i) H H1 → H.next < H1.next → Am.look H.next H1.heap = some (sl, .cells ((pick cs ds).map (AV.int .i64))) →
   Zm Try.prog w0 N0 (some none) y (st 59 [(0, .yield id sp), (1, .vptr [css cs]), (3, .mptr a sa 0), (4, .mptr b sb 0), (5, .ms H.next sl 1 0 cs.length none)] H1.heap H1.next H1.clk) k Q) :
  Zm Try.prog w0 N0 (some none) (.loop zsr) (st 59 [(13, .int .i64 ((0 : Nat) : Int)), (12, .int .i64 ((cs.map fun c => ([vsI c] : List AV)).length : Nat)), (11, css cs), (5, .nils), (0, .yield id sp), (1, .vptr [css cs]), (3, .mptr a sa 0), (4, .mptr b sb 0)] H.heap H.next H.clk) (.blk 2 :: .seq y :: k) Q := by
 refine z_grow 5 1 rfl ?_
 have hdl := zlf hf
 refine zcj (fun mm S => ∃ i sl H1, mm = cs.length - i ∧ i ≤ cs.length ∧ Keep (fun i => H.next ≤ i) H H1 ∧ H.next < H1.next ∧ Am.look H.next H1.heap = some (sl, .cells (((pick cs ds).take i).map (AV.int .i64))) ∧
   S = st 59 [(0, .yield id sp), (1, .vptr [css cs]), (3, .mptr a sa 0), (4, .mptr b sb 0), (5, .ms H.next sl 1 0 i none), (11, css cs), (12, .int .i64 ((cs.map fun c => ([vsI c] : List AV)).length : Nat)), (13, .int .i64 (i : Nat))] H1.heap H1.next H1.clk) cs.length
  (zam (.cons rfl (.cons rfl (.cons rfl (.cons rfl (.cons rfl (.cons rfl (.cons rfl (.cons rfl .nil)))))))))
  ⟨0, H.clk, ⟨(H.next, H.clk, .cells []) :: H.heap, H.next + 1, H.clk + 1⟩, rfl, Nat.zero_le _, ⟨Nat.le_succ _, Nat.le_succ _, fun i hi _ => zbc (by omega)⟩, Nat.lt_succ_self _, zbf, rfl⟩ ?_
 rintro mm S ⟨i, sl, H1, rfl, hi, hK, hlt, hl, rfl⟩
 unfold zsr
 have hcl : (cs.map fun c => ([vsI c] : List AV)).length = cs.length := List.length_map ..
 refine za5 (za0 rfl ?_)
 refine zak rfl rfl rfl (fun h3 => ?_) fun h3 => ?_
 ·have hlt2 : i < cs.length := by
   have := of_decide_eq_true h3
   rw [hcl] at this
   omega
  have hg := ziz hlt2
  have ha1 : Am.look a H1.heap = some (sa, .cells (dg ds)) := (hK.look a (by omega) hla).trans ha
  have hv := zto (ds := ds) (i := i) (by omega)
  have hfg := zle hf i hlt2 (by omega)
  have hp : (pick cs ds)[i]? = some (cs[i].getD ds[i] 0) := zqn hf i hlt2 (by omega)
  have hx : (cs[i].map fun z => ([.int .i64 z] : List AV))[((ds[i] : Nat) : Int).toNat]? = some [.int .i64 (cs[i].getD ds[i] 0)] := by
   rw [zfl _ _ hfg, List.getD_eq_getElem?_getD, List.getElem?_eq_getElem hfg]
   rfl
  have hne : a ≠ H.next := by omega
  generalize cs[i].getD ds[i] 0 = x at hp hx
  unfold vsI at hg
  generalize cs[i] = c at hg hx
  generalize ds[i] = d at hv hx
  repeat (first | refine za5 ?_ | refine za0 rfl ?_ | refine za4 ?_ | refine za2 ?_ | refine zae ?_ | refine zab ?_ | refine zb6 rfl ?_ | refine za3 rfl ?_ | refine zag rfl rfl ?_ | refine zc2 rfl rfl (by omega) (by assumption) rfl ?_ | refine zc6 rfl rfl (decide_eq_true ⟨by omega, by omega⟩) ?_)
  refine zp0 rfl ha1 (Nat.lt_of_lt_of_le hla hK.next) hv ?_
  refine zc2 rfl rfl (Int.natCast_nonneg d) hx rfl ?_
  repeat (first | refine zag rfl rfl ?_ | refine zdm rfl rfl ?_)
  refine zbd [[.int .i64 x]] rfl rfl (ztr zbf) (fun h => Nat.noConfusion h) rfl (by decide) ((zbc hlt).trans hl) ?_ ?_ ?_
  ·rw [List.length_map, List.length_take, zie hf]; omega
  ·show i + 1 ≤ _; omega
  repeat (first | refine za0 rfl ?_ | refine za4 ?_ | refine za2 ?_ | refine zbe ?_ | refine za3 rfl ?_ | refine zao (op := .add) rfl rfl rfl ?_)
  rw [zb2 i (by omega)]
  refine zaz (show cs.length - (i + 1) < cs.length - i by omega) (zam (.cons rfl (.cons rfl (.cons rfl (.cons rfl (.cons rfl (.cons rfl (.cons rfl (.cons rfl .nil))))))))) ⟨i + 1, _, ⟨_, _, _⟩, rfl, hlt2, ⟨Nat.le_succ_of_le hK.next, by have := hK.clk; show _ ≤ H1.clk + 1 + 1; omega, fun j hj hj2 => ?_⟩, Nat.lt_succ_of_lt hlt, ?_, rfl⟩
  ·show Am.look j (zb4 _ _ ((_, _) :: _)) = _
   rw [za1, if_neg (by omega), zbc (by have := hK.next; omega)]
   exact hK.look j hj hj2
  ·show Am.look _ (zb4 _ _ ((_, _) :: _)) = _
   rw [za1, if_pos rfl, List.take_add_one, hp, List.map_append]
   rfl
 ·have hi2 : i = cs.length := by
   have := of_decide_eq_false h3
   rw [hcl] at this
   omega
  subst hi2
  rw [List.take_of_length_le (by rw [zie hf]; exact Nat.le_refl _)] at hl
  refine za4 (za2 (za5 (zbi rfl (zc0 (zan (zdk (zby (za2 ?_))))))))
  exact zk0 (zam (.cons rfl (.cons rfl (.cons rfl (.cons rfl (.cons rfl .nil)))))) (fin H1 sl hK hlt hl)
end
end Go.Proofs.Ytoiblgbaeglgoaa
namespace Go.Proofs.Ytoiblgbaeglgoaa
open Go Go.Am
theorem inc_step {cs : List (List Int)} {ds : List Nat} {i : Nat} (h1 : i < cs.length) (h2 : i < ds.length) : inc (cs.drop i) (ds.drop i) = if (inc (cs.drop (i + 1)) (ds.drop (i + 1))).1 = true then (if ds[i] + 1 < cs[i].length then (false, (ds[i] + 1) :: (inc (cs.drop (i + 1)) (ds.drop (i + 1))).2) else (true, 0 :: (inc (cs.drop (i + 1)) (ds.drop (i + 1))).2)) else (false, ds[i] :: (inc (cs.drop (i + 1)) (ds.drop (i + 1))).2) := by
 rw [List.drop_eq_getElem_cons h1, List.drop_eq_getElem_cons h2, inc]
theorem set_take {ds z : List Nat} {i : Nat} (h : i < ds.length) (x : Nat) : (ds.take (i + 1) ++ z).set i x = ds.take i ++ x :: z := by
 rw [List.take_add_one, List.getElem?_eq_getElem h]
 simp only [Option.toList_some, List.append_assoc, List.cons_append, List.nil_append]
 have hl : (ds.take i).length = i := by rw [List.length_take]; omega
 rw [List.set_append_right _ _ (by omega), hl, Nat.sub_self]
 rfl
section
variable {w0 : World} {N0 : Nat} {k : List Fr} {Q : Exit → AS → Prop}
set_option maxHeartbeats 2000000 in
theorem loop80_4 {y : IC} {a sa b sb id sp : Nat} {cs : List (List Int)} {ds : List Nat} {H : HS} (hf : zk1 cs ds) (hn : cs.length ≤ 6) (hc : ∀ c ∈ cs, c.length ≤ 1000000) (ha : Am.look a H.heap = some (sa, .cells (dg ds))) (hla : a < H.next)
  (fin : ∀ H1, Keep (fun i => i = a) H H1 → Am.look a H1.heap = some (sa, .cells (dg (inc cs ds).2)) →
   Zm Try.prog w0 N0 (some none) y (st 59 [(0, .yield id sp), (1, .vptr [css cs]), (3, .mptr a sa 0), (4, .mptr b sb 0)] H1.heap H1.next H1.clk) k Q) :
  Zm Try.prog w0 N0 (some none) (.loop zss) (st 59 [(8, .int .i64 ((cs.length : Int) - 1)), (0, .yield id sp), (1, .vptr [css cs]), (3, .mptr a sa 0), (4, .mptr b sb 0)] H.heap H.next H.clk) (.blk 4 :: .seq y :: k) Q := by
 have hdl := zlf hf
 refine zcj (fun mm S => ∃ H1, mm ≤ cs.length ∧ Keep (fun i => i = a) H H1 ∧ Am.look a H1.heap = some (sa, .cells (dg (ds.take mm ++ List.replicate (cs.length - mm) 0))) ∧ inc (cs.drop mm) (ds.drop mm) = (true, List.replicate (cs.length - mm) 0) ∧
   S = st 59 [(0, .yield id sp), (1, .vptr [css cs]), (3, .mptr a sa 0), (4, .mptr b sb 0), (8, .int .i64 ((mm : Int) - 1))] H1.heap H1.next H1.clk) cs.length
  (zam (.cons rfl (.cons rfl (.cons rfl (.cons rfl (.cons rfl .nil))))))
  ⟨H, Nat.le_refl _, .refl _ _, by rw [Nat.sub_self, List.replicate_zero, List.append_nil, List.take_of_length_le (by omega)]; exact ha, by rw [Nat.sub_self, List.drop_length, List.drop_of_length_le (by omega)]; rfl, rfl⟩ ?_
 rintro mm S ⟨H1, hm, hK, hl, hi, rfl⟩
 unfold zss
 refine za5 (za5 (za0 rfl (za3 rfl ?_)))
 refine zak rfl rfl rfl (fun h3 => ?_) fun h3 => ?_
 ·have h3 := of_decide_eq_true h3
  obtain ⟨i, rfl⟩ : ∃ i, mm = i + 1 := ⟨mm - 1, by omega⟩
  have e1 : ((i + 1 : Nat) : Int) - 1 = (i : Nat) := by omega
  rw [e1]
  have hi1 : i < cs.length := hm
  have hi2 : i < ds.length := by omega
  have hfg := zle hf i hi1 hi2
  have hcl : cs[i].length ≤ 1000000 := hc _ (List.getElem_mem hi1)
  have hg := ziz hi1
  have hla1 : a < H1.next := Nat.lt_of_lt_of_le hla hK.next
  have hE : (ds.take (i + 1) ++ List.replicate (cs.length - (i + 1)) 0).length = cs.length := by simp; omega
  have hgE : (ds.take (i + 1) ++ List.replicate (cs.length - (i + 1)) 0)[i]'(by omega) = ds[i] := by
   rw [List.getElem_append_left (by rw [List.length_take]; omega), List.getElem_take]
  have hv := zto (ds := ds.take (i + 1) ++ List.replicate (cs.length - (i + 1)) 0) (i := i) (by omega)
  rw [hgE] at hv
  have hst := inc_step hi1 hi2
  rw [hi, if_pos rfl] at hst
  have hvn : (css cs) = .vs (cs.map fun c => [vsI c]) := rfl
  repeat (first | refine za5 ?_ | refine za0 rfl ?_ | refine za4 ?_ | refine za2 ?_ | refine zae ?_ | refine zab ?_ | refine zb6 rfl ?_ | refine za3 rfl ?_ | refine zc6 rfl rfl (decide_eq_true ⟨by omega, by omega⟩) ?_)
  refine zp0 rfl hl hla1 hv ?_
  repeat (first | refine zao (op := .add) rfl rfl rfl ?_ | refine zc6 rfl rfl (decide_eq_true ⟨by omega, by omega⟩) ?_)
  rw [zb2 _ (by omega)]
  refine zql rfl rfl rfl hl (by rw [zq3 (by omega), Int.toNat_natCast]; omega) rfl ?_
  rw [dg_set (by omega), set_take hi2]
  have hE2 : (ds.take i ++ (ds[i] + 1) :: List.replicate (cs.length - (i + 1)) 0).length = cs.length := by simp; omega
  have hv2 := zto (ds := ds.take i ++ (ds[i] + 1) :: List.replicate (cs.length - (i + 1)) 0) (i := i) (by omega)
  have hgE2 : (ds.take i ++ (ds[i] + 1) :: List.replicate (cs.length - (i + 1)) 0)[i]'(by omega) = ds[i] + 1 := by
   rw [List.getElem_append_right (by rw [List.length_take]; omega)]
   simp [List.length_take, Nat.min_eq_left (Nat.le_of_lt hi2)]
  rw [hgE2] at hv2
  repeat (first | refine za5 ?_ | refine za4 ?_ | refine za2 ?_ | refine za3 rfl ?_ | refine zfw env0_ok rfl rfl rfl ?_ | refine zc6 rfl rfl (decide_eq_true ⟨by omega, by omega⟩) ?_)
  refine zp0 rfl (by rw [za1, if_pos rfl]) hla1 hv2 ?_
  repeat (first | refine za3 rfl ?_ | refine zag rfl rfl ?_ | refine zbk rfl rfl ?_ | refine zc2 rfl rfl (by omega) (by assumption) rfl ?_)
  have hlen : (cs[i].map fun z => ([.int .i64 z] : List AV)).length = cs[i].length := List.length_map ..
  have hK2 : ∀ o, Keep (fun i => i = a) H ⟨zb4 a o H1.heap, H1.next, H1.clk⟩ := fun o => ⟨hK.next, hK.clk, fun j hj hj2 => by
   show Am.look j (zb4 a _ H1.heap) = _
   rw [za1, if_neg (fun e => hj e.symm)]
   exact hK.look j hj hj2⟩
  refine zak rfl rfl rfl (fun h4 => ?_) fun h4 => ?_
  ·have h4 : ((ds[i] + 1 : Nat) : Int) < ((cs[i].map fun z => ([.int .i64 z] : List AV)).length : Nat) := of_decide_eq_true h4
   rw [if_pos (by omega)] at hst
   have hinc := inc_at i hf (by rw [hst])
   rw [hst] at hinc
   repeat (first | refine za4 ?_ | refine za2 ?_ | refine zb6 rfl ?_ | refine zc0 ?_ | refine zan ?_ | refine zdg rfl ?_)
   refine zdk (zby (za2 ?_))
   refine zk0 (zam (.cons rfl (.cons rfl (.cons rfl (.cons rfl .nil))))) (fin ⟨_, _, _⟩ (hK2 _) ?_)
   show Am.look a (zb4 a _ H1.heap) = _
   rw [za1, if_pos rfl, hinc]
  ·have h4 : ¬ ((ds[i] + 1 : Nat) : Int) < ((cs[i].map fun z => ([.int .i64 z] : List AV)).length : Nat) := of_decide_eq_false h4
   rw [if_neg (by omega)] at hst
   repeat (first | refine za0 rfl ?_ | refine za4 ?_ | refine za2 ?_ | refine zab ?_ | refine zbi rfl ?_ | refine za3 rfl ?_ | refine zc6 rfl rfl (decide_eq_true ⟨by omega, by omega⟩) ?_)
   refine zql (cs := dg (ds.take i ++ (ds[i] + 1) :: List.replicate (cs.length - (i + 1)) 0)) rfl rfl rfl (by rw [za1, if_pos rfl]) (by rw [zq3 (by omega), Int.toNat_natCast]; omega) rfl ?_
   repeat (first | refine za0 rfl ?_ | refine za4 ?_ | refine za2 ?_ | refine zbe ?_ | refine za3 rfl ?_ | refine zao (op := .sub) rfl rfl rfl ?_)
   rw [show IntKind.wrap .i64 (((i : Nat) : Int) - 1) = ((i : Nat) : Int) - 1 from zmg _ (by omega) (by omega)]
   refine zaz (show i < i + 1 by omega) (zam (.cons rfl (.cons rfl (.cons rfl (.cons rfl (.cons rfl .nil)))))) ⟨⟨zb4 a _ (zb4 a _ H1.heap), H1.next, H1.clk⟩, by omega, ⟨hK.next, hK.clk, fun j hj hj2 => ?_⟩, ?_, ?_, rfl⟩
   ·show Am.look j (zb4 a _ (zb4 a _ H1.heap)) = _
    rw [za1, if_neg (fun e => hj e.symm), za1, if_neg (fun e => hj e.symm)]
    exact hK.look j hj hj2
   ·show Am.look a (zb4 a _ (zb4 a _ H1.heap)) = _
    rw [za1, if_pos rfl]
    have e0 := dg_set (ds := ds.take i ++ (ds[i] + 1) :: List.replicate (cs.length - (i + 1)) 0) (i := i) (by omega) 0
    rw [show (AV.int .i64 0) = .int .i64 ((0 : Nat) : Int) from rfl, e0, List.set_append_right _ _ (by rw [List.length_take]; omega), List.length_take, Nat.min_eq_left (by omega), Nat.sub_self, List.set_cons_zero, show cs.length - i = (cs.length - (i + 1)) + 1 from by omega, List.replicate_succ]
   ·rw [hst, show cs.length - i = (cs.length - (i + 1)) + 1 from by omega, List.replicate_succ]
 ·have h3 := of_decide_eq_false h3
  obtain rfl : mm = 0 := by omega
  rw [List.drop_zero, List.drop_zero] at hi
  refine za4 (za2 (zbi rfl (zc0 (zan (zdk (zby (za2 ?_)))))))
  refine zk0 (zam (.cons rfl (.cons rfl (.cons rfl (.cons rfl .nil))))) (fin H1 hK ?_)
  rw [hi, hl]
  rfl
end
end Go.Proofs.Ytoiblgbaeglgoaa
namespace Go.Proofs.Ytoiblgbaeglgoaa
open Go Go.Am
theorem eq6 {ds : List Nat} {m : Nat} (h : ds.length = m) (hm : m ≤ 6) : ∃ r, zrk (dg ds) (dg (List.replicate m 0)) [(0, .int), (1, .int), (2, .int), (3, .int), (4, .int), (5, .int)] = some r ∧ (r = true ↔ ds = List.replicate m 0) := by
 subst h
 have hz : List.replicate ds.length 0 ++ List.replicate (6 - (List.replicate ds.length 0).length) 0 = List.replicate 6 0 := by
  rw [List.length_replicate, List.replicate_append_replicate]
  congr 1
  omega
 have hl : (ds ++ List.replicate (6 - ds.length) 0).length = 6 := by simp; omega
 have key : ds = List.replicate ds.length 0 ↔ ds ++ List.replicate (6 - ds.length) 0 = List.replicate 6 0 := by
  rw [show (6 : Nat) = ds.length + (6 - ds.length) from by omega, ← List.replicate_append_replicate]
  constructor
  ·intro h
   rw [show ds.length + (6 - ds.length) - ds.length = 6 - ds.length from by omega, ← h]
  ·intro h
   exact (List.append_inj h (by simp)).1
 rw [key]
 unfold dg
 rw [hz]
 clear key hz
 generalize ds ++ List.replicate (6 - ds.length) 0 = E at hl
 obtain ⟨a, b, c, d, e, f, rfl⟩ : ∃ a b c d e f, E = [a, b, c, d, e, f] := by
  match E, hl with
  | [a, b, c, d, e, f], _ => exact ⟨a, b, c, d, e, f, rfl⟩
 refine ⟨_, rfl, ?_⟩
 simp [Bool.and_eq_true, List.replicate_succ]
theorem ztn {ds : List Nat} (h : ds.length ≤ 6) : Nat.ble 6 ((dg ds).drop 0).length = true := by rw [List.drop_zero, zq3 h]; rfl
theorem zof {ds : List Nat} (h : ds.length ≤ 6) : ((dg ds).drop 0).take 6 = dg ds := by rw [List.drop_zero, List.take_of_length_le (by rw [zq3 h]; exact Nat.le_refl _)]
section
variable {σ τ : Type} {step : σ → List Int → σ ⊕ τ} {M : Nat → Prop} {I : σ → HS → Prop} {J : τ → HS → Prop}
set_option maxHeartbeats 4000000 in
theorem range80 {w0 : World} {N0 id sp : Nat} (hloc : Local M I) {Pr : σ → List Int → Prop} (hy : ∀ s l H, Pr s l → I s H → CT Try.prog w0 N0 (.yield id sp) [vsI l] H (zs7 M I J H (step s l))) (cs : List (List Int)) (hn : cs.length ≤ 6) (hc : ∀ c ∈ cs, c ≠ [] ∧ c.length ≤ 1000000) (H : HS) (s : σ) (hI : I s H) (hal : Along step Pr (ze0 cs) s) :
  FT Try.prog w0 N0 130 [.yield id sp, .vptr [css cs]] H fun _ H' => Keep M H H' ∧ match zj7 step (ze0 cs) s with
   | .inl s' => I s' H'
   | .inr t => J t H' := by
 have hcn : ∀ c ∈ cs, c ≠ [] := fun c h => (hc c h).1
 have hlt := hloc.lt s H hI
 refine zh7 env0_ok fn130 [(0, .yield id sp), (1, .vptr [css cs])] (by show 2 ≤ 59; decide) rfl ?_
 unfold ic130
 refine za5 (za0 rfl (zhk rfl rfl (zbl ?_)))
 refine zap rfl rfl rfl rfl zbf rfl rfl ?_
 rw [ze9]
 refine za4 (za2 (za5 (za0 rfl ?_)))
 refine ze8 rfl zbf (Nat.lt_succ_self _) rfl rfl ?_
 refine zbl ?_
 refine zap rfl rfl rfl rfl zbf rfl rfl ?_
 rw [ze9]
 refine za4 (za2 (zae ?_))
 have hdz : dg (zhw cs) = [.int .i64 0, .int .i64 0, .int .i64 0, .int .i64 0, .int .i64 0, .int .i64 0] := by
  unfold dg zhw
  rw [List.length_replicate, List.replicate_append_replicate, show cs.length + (6 - cs.length) = 6 from by omega]
  rfl
 refine zcj (fun mm S => ∃ ds s' H' b sb, mm = (rest cs ds).length ∧ zk1 cs ds ∧ zj7 step (ze0 cs) s = zj7 step (rest cs ds) s' ∧ Along step Pr (rest cs ds) s' ∧ I s' H' ∧ Keep M H H' ∧ H.next < b ∧ b < H'.next ∧
   Am.look H.next H'.heap = some (H.clk, .cells (dg ds)) ∧ Am.look b H'.heap = some (sb, .cells (dg (zhw cs))) ∧
   S = st 59 [(0, .yield id sp), (1, .vptr [css cs]), (3, .mptr H.next H.clk 0), (4, .mptr b sb 0)] H'.heap H'.next H'.clk) (ze0 cs).length
  (zam (.cons rfl (.cons rfl (.cons rfl (.cons rfl .nil)))))
  ⟨zhw cs, s, ⟨(H.next + 1, H.clk + 1, .cells [.int .i64 0, .int .i64 0, .int .i64 0, .int .i64 0, .int .i64 0, .int .i64 0]) :: (H.next, H.clk, .cells [.int .i64 0, .int .i64 0, .int .i64 0, .int .i64 0, .int .i64 0, .int .i64 0]) :: H.heap, H.next + 1 + 1, H.clk + 1 + 1⟩, H.next + 1, H.clk + 1, by rw [zeo hcn], zhc hcn, by rw [zeo hcn], by rw [zeo hcn]; exact hal, ?_, ?_, Nat.lt_succ_self _, Nat.lt_succ_self _, ?_, ?_, rfl⟩ ?_
 ·refine zhe hloc hI ⟨by show H.next ≤ H.next + 1 + 1; omega, by show H.clk ≤ H.clk + 1 + 1; omega, fun i hi hi2 => ?_⟩
  show Am.look i (_ :: _ :: _) = _
  rw [zbc (by omega), zbc (by omega)]
 ·refine ⟨by show H.next ≤ H.next + 1 + 1; omega, by show H.clk ≤ H.clk + 1 + 1; omega, fun i hi hi2 => ?_⟩
  show Am.look i (_ :: _ :: _) = _
  rw [zbc (by omega), zbc (by omega)]
 ·show Am.look _ (_ :: _ :: _) = _
  rw [zbc (by omega), zbf, hdz]
 ·show Am.look _ (_ :: _ :: _) = _
  rw [zbf, hdz]
 rintro mm S ⟨ds, s', H', b, sb, rfl, hf, hfold, hal', hI', hK, hb, hnx, hla, hlb, rfl⟩
 unfold b130_0
 have na : ¬ M H.next := fun h => Nat.lt_irrefl _ (hlt _ h)
 have nb : ¬ M b := fun h => by have := hlt _ h; omega
 have hlt' := hloc.lt s' H' hI'
 refine za5 (zae (za5 (za0 rfl (za3 rfl (za4 (za2 (za5 (za5 (za0 rfl (zag rfl rfl (zbk rfl rfl (za3 rfl (za4 (za2 (zae ?_)))))))))))))))
 refine zk0 (zam (l' := [(13, .int .i64 ((0 : Nat) : Int)), (12, .int .i64 ((cs.map fun c => ([vsI c] : List AV)).length : Nat)), (11, css cs), (5, .nils), (0, .yield id sp), (1, .vptr [css cs]), (3, .mptr H.next H.clk 0), (4, .mptr b sb 0)]) (.cons rfl (.cons rfl (.cons rfl (.cons rfl (.cons rfl (.cons rfl (.cons rfl (.cons rfl .nil))))))))) ?_
 refine loop80_2 hf hn hla (by omega) fun H1 sl hK1 hn1 hl1 => ?_
 refine z_freeze H'.next sl hl1 (zb8 _) (l' := [(0, .yield id sp), (1, .vptr [css cs]), (3, .mptr H.next H.clk 0), (4, .mptr b sb 0), (5, vsI (pick cs ds))]) (.cons rfl .same (.cons rfl .same (.cons rfl .same (.cons rfl .same (.cons rfl (.fms (by rw [List.length_map, zie hf]) (fun x hx => by obtain ⟨z, _, rfl⟩ := List.mem_map.1 hx; rfl) ⟨[], ?_⟩) .nil))))) ?_
 ·rw [List.drop_zero, List.append_nil]
  generalize pick cs ds = l
  induction l with
  | nil => rfl
  | cons z l ih => simpa using ih
 have hK2 : Keep (fun i => H'.next ≤ i) H' ⟨zbj H'.next H1.heap, H1.next, H1.clk⟩ := ⟨hK1.next, hK1.clk, fun i hi hi2 => by
  show Am.look i (zbj H'.next H1.heap) = _
  rw [za9, if_neg (by omega)]
  exact hK1.look i hi hi2⟩
 have hrest : ∃ more, rest cs ds = pick cs ds :: more := by
  cases hi : (inc cs ds).1 with
  | true => exact ⟨_, (zgm hf hi).2⟩
  | false => exact ⟨_, (zgl hf hcn hi).2.1⟩
 obtain ⟨more, hmore⟩ := hrest
 rw [hmore] at hfold hal'
 refine za5 (za5 (za0 rfl (za3 rfl (za3 rfl ?_))))
 refine o_ct _ rfl rfl (hy s' (pick cs ds) ⟨zbj H'.next H1.heap, H1.next, H1.clk⟩ hal'.1 (zhe hloc hI' hK2)) (fun _ _ _ _ hm => absurd hm List.not_mem_nil) fun v H2 hF => ?_
 obtain ⟨hK3, hF⟩ := hF
 have hM : ∀ {Ha Hb : HS}, Ha.next ≤ Ha.next → Keep (fun i => H'.next ≤ i) H' Hb → Keep M H Hb := fun _ h => ⟨Nat.le_trans hK.next h.next, Nat.le_trans hK.clk h.clk, fun i hi hi2 => by
  have := hK.next
  rw [h.look i (by omega) (by omega)]
  exact hK.look i hi hi2⟩
 have hKH2 : Keep M H H2 := (hM (Ha := H) (Nat.le_refl _) hK2).trans hK3
 have n1 : H'.next ≤ H1.next := hK1.next
 have n2 : H1.next ≤ H2.next := hK3.next
 have la2 : Am.look H.next H2.heap = some (H.clk, .cells (dg ds)) := (hK3.look _ na (show H.next < H1.next by omega)).trans ((hK2.look _ (by omega) (by omega)).trans hla)
 have lb2 : Am.look b H2.heap = some (sb, .cells (dg (zhw cs))) := (hK3.look _ nb (show b < H1.next by omega)).trans ((hK2.look _ (by omega) (by omega)).trans hlb)
 have hfold' : zj7 step (ze0 cs) s = match step s' (pick cs ds) with
   | .inr t => .inr t
   | .inl s2 => zj7 step more s2 := hfold
 cases hst : step s' (pick cs ds) with
 | inr t =>
  rw [hst] at hF
  obtain ⟨rfl, hJ⟩ := hF
  repeat (first | refine zi1 rfl rfl ?_ | refine za4 ?_ | refine za2 ?_ | refine zb6 rfl ?_ | refine zaf ?_ | refine za6 ?_ | refine zah ?_)
  refine zbq ?_
  repeat (first | refine zah ?_)
  refine zad ⟨.inr rfl, _, rfl, hKH2, ?_⟩
  rw [hfold', hst]
  exact hJ
 | inl s2 =>
  rw [hst] at hF
  rw [hst] at hfold'
  replace hfold' : zj7 step (ze0 cs) s = zj7 step more s2 := hfold'
  obtain ⟨rfl, hI2⟩ := hF
  repeat (first | refine zi1 rfl rfl ?_ | refine za4 ?_ | refine za2 ?_ | refine zbi rfl ?_ | refine zab ?_)
  have hcl : (cs.map fun c => ([vsI c] : List AV)).length = cs.length := List.length_map ..
  refine za5 (za5 (za0 rfl (zag rfl rfl (zbk rfl rfl (zao (op := .sub) rfl rfl rfl (za3 rfl (za4 (za2 (zae ?_)))))))))
  rw [hcl, zmg _ (by omega) (by omega)]
  refine zk0 (zam (l' := [(8, .int .i64 ((cs.length : Int) - 1)), (0, .yield id sp), (1, .vptr [css cs]), (3, .mptr H.next H.clk 0), (4, .mptr b sb 0)]) (.cons rfl (.cons rfl (.cons rfl (.cons rfl (.cons rfl .nil)))))) ?_
  refine loop80_4 hf hn (fun c h => (hc c h).2) la2 (by omega) fun H3 hK4 la3 => ?_
  have lb3 : Am.look b H3.heap = some (sb, .cells (dg (zhw cs))) := (hK4.look _ (by omega) (by omega)).trans lb2
  have n3 : H2.next ≤ H3.next := hK4.next
  have hKH3 : Keep M H H3 := ⟨Nat.le_trans hKH2.next hK4.next, Nat.le_trans hKH2.clk hK4.clk, fun i hi hi2 => by
   rw [hK4.look i (by omega) (by omega)]
   exact hKH2.look i hi hi2⟩
  have hI3 : I s2 H3 := hloc.of s2 H2 H3 hI2 hK4.next fun i hm => hK4.look i (fun e => na (e ▸ hm)) (hloc.lt s2 H2 hI2 i hm)
  have hn3 : (inc cs ds).2.length ≤ 6 := by rw [zov hf]; exact hn
  have hnz : (zhw cs).length ≤ 6 := by simp [zhw]; omega
  obtain ⟨r, hr, hri⟩ := eq6 (zov hf) hn
  refine za5 (za0 rfl ?_)
  refine ze8 rfl la3 (by omega) (ztn hn3) (zof hn3) ?_
  refine ze8 rfl lb3 (by omega) (ztn hnz) (zof hnz) ?_
  refine o_eqs rfl rfl hr (fun h => ?_) fun h => ?_
  ·have h : r = true := h
   have hz := hri.1 h
   have ht : (inc cs ds).1 = true := by
    cases hi : (inc cs ds).1 with
    | true => rfl
    | false => exact absurd hz (zgl hf hcn hi).2.2
   have hrt := (zgm hf ht).2
   rw [hmore] at hrt
   injection hrt with _ hm0
   subst hm0
   repeat (first | refine za4 ?_ | refine za2 ?_ | refine zb6 rfl ?_ | refine zaf ?_ | refine za6 ?_ | refine zah ?_)
   refine zbq ?_
   repeat (first | refine zah ?_)
   refine zad ⟨.inr rfl, _, rfl, hKH3, ?_⟩
   rw [hfold']
   exact hI3
  ·have h : r = false := h
   have hz : (inc cs ds).1 = false := by
    cases hi : (inc cs ds).1 with
    | false => rfl
    | true => rw [hri.2 (zgm hf hi).1] at h; cases h
   obtain ⟨f1, f2, f3⟩ := zgl hf hcn hz
   rw [f2] at hmore
   injection hmore with _ hm0
   subst hm0
   repeat (first | refine za4 ?_ | refine za2 ?_ | refine zbi rfl ?_ | refine zab ?_ | refine zbe ?_)
   repeat (first | refine za5 ?_)
   refine za0 rfl ?_
   refine ze8 rfl lb3 (by omega) (ztn hnz) (zof hnz) ?_
   rw [hdz]
   refine za4 (za2 (za0 rfl (zbl ?_)))
   refine zap rfl rfl rfl rfl zbf rfl rfl ?_
   rw [ze9]
   refine za4 ?_
   refine zaz (show (rest cs (inc cs ds).2).length < (rest cs ds).length by rw [f2]; exact Nat.lt_succ_self _) (zam (.cons rfl (.cons rfl (.cons rfl (.cons rfl .nil))))) ⟨(inc cs ds).2, s2, ⟨_, _, _⟩, H3.next, H3.clk, rfl, f1, hfold', hal'.2 _ hst, zhe hloc hI3 ⟨Nat.le_succ _, Nat.le_succ _, fun i hi hi2 => zbc hi2⟩, hKH3.trans ⟨Nat.le_succ _, Nat.le_succ _, fun i hi hi2 => zbc hi2⟩, by omega, Nat.lt_succ_self _, (zbc (by omega)).trans la3, zbf, rfl⟩
end
end Go.Proofs.Ytoiblgbaeglgoaa
