/-
  C1, C2, C3, C4 in one text.; C5, C6, TB, D1 in one text.; P1, P2, P4, P5, P6 in one text.; STROKES AND STEPS: stroke.CheckStep.; WAYS OF ACTUATORS, SMALL SEQUENCES: ref13.Way, ref14.moves, ref14.Few.; SMALL SEQUENCES; STROKES THAT SUIT: ref14.Few, ref13.Suits.; ENDS BEHIND A STEP: ref13.After.; ENDS BEHIND A STEP: sequence.ends.behind.
-/
import Derived.Test.YtoiblgbaeglgoaaKX3
import Derived.KernelRfl
namespace Go.Proofs.Ytoiblgbaeglgoaa
open Go Go.Am
def ze2 : List (List Int) → List (List Int)
 | [] => [[]]
 | c :: cs => c.flatMap fun x => (ze2 cs).map (x :: ·)
def inc : List (List Int) → List Nat → Bool × List Nat
 | c :: cs, d :: ds => if (inc cs ds).1 = true then (if d + 1 < c.length then (false, (d + 1) :: (inc cs ds).2) else (true, 0 :: (inc cs ds).2)) else (false, d :: (inc cs ds).2)
 | _, _ => (true, [])
def rest : List (List Int) → List Nat → List (List Int)
 | c :: cs, d :: ds => (rest cs ds).map (c.getD d 0 :: ·) ++ (c.drop (d + 1)).flatMap fun x => (ze2 cs).map (x :: ·)
 | _, _ => [[]]
def pick : List (List Int) → List Nat → List Int
 | c :: cs, d :: ds => c.getD d 0 :: pick cs ds
 | _, _ => []
def zmb : List (List Int) → List Nat → Prop
 | c :: cs, d :: ds => d < c.length ∧ zmb cs ds
 | [], [] => True
 | _, _ => False
def zjw (cs : List (List Int)) : List Nat := List.replicate cs.length 0
theorem zoc : ∀ {cs : List (List Int)} {ds : List Nat}, zmb cs ds → ds.length = cs.length
 | [], [], _ => rfl
 | [], _ :: _, h => h.elim
 | _ :: _, [], h => h.elim
 | c :: cs, d :: ds, h => by rw [y0m, y0m, zoc h.2]
theorem zob : ∀ {cs : List (List Int)} {ds : List Nat}, zmb cs ds → ∀ (i : Nat) (h1 : i < cs.length) (h2 : i < ds.length), ds[i] < cs[i].length
 | [], _, _, i, h1, _ => absurd h1 (y28 _)
 | _ :: _, [], h, _, _, _ => h.elim
 | c :: cs, d :: ds, h, 0, _, _ => h.1
 | c :: cs, d :: ds, h, i + 1, h1, h2 => zob h.2 i (by simpa using h1) (by simpa using h2)
theorem zjd : ∀ {cs : List (List Int)}, (∀ c ∈ cs, c ≠ []) → zmb cs (zjw cs)
 | [], _ => trivial
 | c :: _cs, h => ⟨List.length_pos_iff.2 (h c (y05 ..)), zjd fun c hc => h c (y04 _ hc)⟩
theorem zft : ∀ {cs : List (List Int)}, (∀ c ∈ cs, c ≠ []) → rest cs (zjw cs) = ze2 cs
 | [], _ => rfl
 | c :: cs, h => by
  have ih := zft (cs := cs) fun c hc => h c (y04 _ hc)
  show rest (c :: cs) (0 :: zjw cs) = _
  obtain ⟨x, xs, rfl⟩ := List.exists_cons_of_ne_nil (h c (y05 ..))
  rw [rest, ih, ze2, List.flatMap_cons]
  rfl
theorem zsh : ∀ {cs : List (List Int)} {ds : List Nat}, zmb cs ds → (inc cs ds).2.length = cs.length
 | [], [], _ => rfl
 | [], _ :: _, h => h.elim
 | _ :: _, [], h => h.elim
 | c :: cs, d :: ds, h => by
  have := zsh h.2
  rw [inc]
  (repeat' split) <;> simp [this]
theorem zij : ∀ {cs : List (List Int)} {ds : List Nat}, zmb cs ds → (inc cs ds).1 = true → (inc cs ds).2 = zjw cs ∧ rest cs ds = [pick cs ds]
 | [], [], _, _ => ⟨rfl, rfl⟩
 | [], _ :: _, h, _ => h.elim
 | _ :: _, [], h, _ => h.elim
 | c :: cs, d :: ds, h, k => by
  rw [inc] at k ⊢
  by_cases h1 : (inc cs ds).1 = true
  ·rw [if_pos h1] at k ⊢
   by_cases h2 : d + 1 < c.length
   ·rw [if_pos h2] at k; cases k
   ·rw [if_neg h2]
    obtain ⟨g1, g2⟩ := zij h.2 h1
    refine ⟨by rw [g1]; rfl, ?_⟩
    rw [rest, g2, pick, List.drop_of_length_le (by omega)]
    rfl
  ·rw [if_neg h1] at k; cases k
theorem zii : ∀ {cs : List (List Int)} {ds : List Nat}, zmb cs ds → (∀ c ∈ cs, c ≠ []) → (inc cs ds).1 = false → zmb cs (inc cs ds).2 ∧ rest cs ds = pick cs ds :: rest cs (inc cs ds).2 ∧ (inc cs ds).2 ≠ zjw cs
 | [], [], _, _, k => by cases k
 | [], _ :: _, h, _, _ => h.elim
 | _ :: _, [], h, _, _ => h.elim
 | c :: cs, d :: ds, h, hne, k => by
  have hne' : ∀ c ∈ cs, c ≠ [] := fun c hc => hne c (y04 _ hc)
  rw [inc] at k ⊢
  by_cases h1 : (inc cs ds).1 = true
  ·rw [if_pos h1] at k ⊢
   by_cases h2 : d + 1 < c.length
   ·rw [if_pos h2]
    obtain ⟨g1, g2⟩ := zij h.2 h1
    refine ⟨⟨h2, by rw [g1]; exact zjd hne'⟩, ?_, fun e => by injection e with e; omega⟩
    rw [rest, g2, g1, pick, rest, zft hne', y0d h2, List.flatMap_cons, y08, y06 h.1, y08, y06 h2]
    rfl
   ·rw [if_neg h2] at k; cases k
  ·rw [if_neg h1]
   have h1 : (inc cs ds).1 = false := by simpa using h1
   obtain ⟨g1, g2, g3⟩ := zii h.2 hne' h1
   refine ⟨⟨h.1, g1⟩, ?_, fun e => g3 (by injection e)⟩
   rw [rest, g2, rest, pick]
   rfl
theorem inc_at : ∀ {cs : List (List Int)} {ds : List Nat} (i : Nat), zmb cs ds → (inc (cs.drop i) (ds.drop i)).1 = false → inc cs ds = (false, ds.take i ++ (inc (cs.drop i) (ds.drop i)).2)
 | cs, ds, 0, _, h => by
  rw [y14, y14] at h ⊢
  rw [List.take_zero, y29]
  exact Prod.ext h rfl
 | [], [], i + 1, _, h => by simp [inc] at h
 | [], _ :: _, _ + 1, hf, _ => hf.elim
 | _ :: _, [], _ + 1, hf, _ => hf.elim
 | c :: cs, d :: ds, i + 1, hf, h => by
  rw [List.drop_succ_cons, List.drop_succ_cons] at h ⊢
  rw [inc, inc_at i hf.2 h, if_neg (by simp), y19]
  rfl
theorem zkh : ∀ {cs : List (List Int)} {ds : List Nat}, zmb cs ds → (pick cs ds).length = cs.length
 | [], [], _ => rfl
 | [], _ :: _, h => h.elim
 | _ :: _, [], h => h.elim
 | c :: cs, d :: ds, h => by rw [pick, y0m, zkh h.2, y0m]
theorem zup : ∀ {cs : List (List Int)} {ds : List Nat}, zmb cs ds → ∀ (i : Nat) (h1 : i < cs.length) (h2 : i < ds.length), (pick cs ds)[i]? = some (cs[i].getD ds[i] 0)
 | [], _, _, i, h1, _ => absurd h1 (y28 _)
 | _ :: _, [], h, _, _, _ => h.elim
 | c :: cs, d :: ds, h, 0, _, _ => rfl
 | c :: cs, d :: ds, h, i + 1, h1, h2 => by
  rw [pick, y22]
  exact zup h.2 i (by simpa using h1) (by simpa using h2)
def zm9 {α σ τ : Type} (step : σ → α → σ ⊕ τ) : List α → σ → σ ⊕ τ
 | [], s => .inl s
 | x :: xs, s => match step s x with
  | .inr t => .inr t
  | .inl s' => zm9 step xs s'
def Along {α σ τ : Type} (step : σ → α → σ ⊕ τ) (Pr : σ → α → Prop) : List α → σ → Prop
 | [], _ => True
 | x :: xs, s => Pr s x ∧ ∀ s', step s x = .inl s' → Along step Pr xs s'
def zxb : IC := .seq (.region [oM 14 (.bin .lss (.t 13) (.t 12))] none)
 (.seq (.cond (.t 14) (.skip)
 (.exit 2))
 (.seq (.block 3 (.seq (.region [oT 15 13,
  oM 16 (.idxs 1 (.t 11) (.t 13)),
  oN 17 16,
  oT 6 15,
  oT 7 17] none)
 (.region [oT 18 5,
  oT 19 7,
  oT 20 6,
  oM 21 (.idxarr 6 1 (.t 3) (.t 20)),
  oN 22 21,
  oM 23 (.idxs 1 (.t 19) (.t 22)),
  oN 24 23,
  oM 25 (.bslice 1 1 [.int .i64 0] [(0, 1, (.t 24))]),
  oM 26 (.append 1 8 [.int .i64 0] (.t 18) (.t 25)),
  oT 5 26] none)))
 (.region [oM 27 (.bin .add (.t 13) (.c (.int .i64 1))),
  oT 13 27] none)))
def zxc : IC := .seq (.seq (.region [oT 35 8,
  oM 36 (.bin .geq (.t 35) (.c (.int .i64 0)))] none)
 (.cond (.t 36) (.skip)
 (.exit 4)))
 (.seq (.block 5 (.seq (.seq (.region [oT 39 8,
  oM 40 (.idxarr 6 1 (.t 3) (.t 39)),
  oN 41 40,
  oM 42 (.bin .add (.t 41) (.c (.int .i64 1))),
  oM 43 (.idxarr 6 1 (.t 3) (.t 39)),
  ⟨none, .store 1 (.t 43) (.t 42), none⟩] none)
 (.seq (.region [oT 44 8,
  oM 45 (.idxarr 6 1 (.t 3) (.t 44)),
  oN 46 45,
  oN 47 1,
  oT 48 8,
  oM 49 (.idxs 1 (.t 47) (.t 48)),
  oN 50 49,
  oM 51 (.len false (.t 50)),
  oM 52 (.bin .lss (.t 46) (.t 51))] (some [[], [0], [1], [], [], [3, 4], [5], [6], [2, 7]]))
 (.cond (.t 52) (.exit 4)
 (.skip))))
 (.region [oT 53 8,
  oM 54 (.idxarr 6 1 (.t 3) (.t 53)),
  ⟨none, .store 1 (.t 54) (.c (.int .i64 0)), none⟩] none)))
 (.region [oT 37 8,
  oM 38 (.bin .sub (.t 37) (.c (.int .i64 1))),
  oT 8 38] none))
def b130_0 : IC := .seq (.block 1 (.seq (.region [oM 5 (.mov (.c (.nils)))] none)
 (.seq (.seq (.region [oN 11 1,
  oM 12 (.len false (.t 11)),
  oM 13 (.mov (.c (.int .i64 0)))] none)
 (.block 2 (.loop zxb)))
 (.seq (.seq (.region [oT 28 0,
  oT 29 5,
  oM 30 (.call (.t 28) [(.t 29)]),
  oM 31 (.un .not (.t 30))] none)
 (.cond (.t 31) (.ret)
 (.skip)))
 (.seq (.seq (.region [oN 32 1,
  oM 33 (.len false (.t 32)),
  oM 34 (.bin .sub (.t 33) (.c (.int .i64 1))),
  oT 8 34] none)
 (.block 4 (.loop zxc)))
 (.seq (.region [oL 55 6 3,
  oL 56 6 4,
  oM 57 (.eqs false [(0, .int), (1, .int), (2, .int), (3, .int), (4, .int), (5, .int)] (.t 55) (.t 56))] none)
 (.cond (.t 57) (.ret)
 (.skip))))))))
 (.seq (.region [oL 58 6 4] none)
 (.region [oM 4 (.alloc [.int .i64 0, .int .i64 0, .int .i64 0, .int .i64 0, .int .i64 0, .int .i64 0]),
  ⟨none, .store 6 (.t 4) (.t 58), none⟩] none))
-- pneumatic/guard.combinations$1
def ic130 : IC := .seq (.region [oM 9 (.build [.int .i64 0, .int .i64 0, .int .i64 0, .int .i64 0, .int .i64 0, .int .i64 0] []),
  oM 3 (.alloc [.int .i64 0, .int .i64 0, .int .i64 0, .int .i64 0, .int .i64 0, .int .i64 0]),
  ⟨none, .store 6 (.t 3) (.t 9), none⟩] none)
 (.seq (.region [oL 10 6 3,
  oM 4 (.alloc [.int .i64 0, .int .i64 0, .int .i64 0, .int .i64 0, .int .i64 0, .int .i64 0]),
  ⟨none, .store 6 (.t 4) (.t 10), none⟩] none)
 (.block 0 (.loop b130_0)))
theorem fn130 : env0.fn 130 = some ⟨59, ic130, []⟩ := by kernel_rfl
def css (cs : List (List Int)) : AV := .vs (cs.map fun c => [vsI c])
def dg (ds : List Nat) : List AV := (ds ++ List.replicate (6 - ds.length) 0).map fun d => .int .i64 (d : Nat)
theorem ztv {ds : List Nat} (h : ds.length ≤ 6) : (dg ds).length = 6 := by simp [dg]; omega
theorem zyb {ds : List Nat} {i : Nat} (h : i < ds.length) : (dg ds)[0 + ((i : Nat) : Int).toNat * 1]? = some (.int .i64 (ds[i] : Nat)) := by
 rw [y0y, Nat.mul_one, y1j, dg, y0h, y0w h, y06 h]
 rfl
theorem dg_set {ds : List Nat} {i : Nat} (h : i < ds.length) (z : Nat) : (dg ds).set (0 + ((i : Nat) : Int).toNat * 1) (.int .i64 (z : Nat)) = dg (ds.set i z) := by
 rw [y0y, Nat.mul_one, y1j, dg, dg, y1i, ← List.set_append_left _ _ h, List.map_set]
theorem zy8 {cs : List (List Int)} {i : Nat} (h : i < cs.length) : (cs.map fun c => ([vsI c] : List AV))[((i : Nat) : Int).toNat]? = some [vsI cs[i]] := by
 rw [y0y, y0h, y06 h]
 rfl
theorem zyd {n nx ck id sp : Nat} {l : List (Nat × AV)} {hp : List (Nat × Nat × AObj)} {mk : List (Nat × Nat)} {v : AV} {cap : Option Nat} (h : Am.look id hp = some (sp, .cells [v])) : (st n l hp nx ck mk).elems 1 (.ms id sp 1 0 1 cap) = some [[v]] := by
 show (match Am.look id hp with | some (st', .cells cs) => _ | _ => none) = _
 rw [h]
 simp [zdi]
theorem zjh {σ : Type} {M : Nat → Prop} {I : σ → HS → Prop} (hl : Local M I) {s : σ} {H H' : HS} (h : I s H) (k : Keep (fun i => H.next ≤ i) H H') : I s H' :=
 hl.of s H H' h k.next fun i hm => k.look i (by have := hl.lt s H h i hm; omega) (hl.lt s H h i hm)
section
variable {w0 : World} {N0 : Nat} {k : List Fr} {Q : Exit → AS → Prop}
set_option maxHeartbeats 2000000 in
theorem loop80_2 {y : IC} {a sa b sb id sp : Nat} {cs : List (List Int)} {ds : List Nat} {H : HS} (hf : zmb cs ds) (hn : cs.length ≤ 6) (ha : Am.look a H.heap = some (sa, .cells (dg ds))) (hla : a < H.next)
  (fin : ∀ H1 sl, Keep (fun i => H.next ≤ i) H H1 → H.next < H1.next → Am.look H.next H1.heap = some (sl, .cells ((pick cs ds).map (AV.int .i64))) →
   Zm Try.prog w0 N0 (some none) y (st 59 [(0, .yield id sp), (1, .vptr [css cs]), (3, .mptr a sa 0), (4, .mptr b sb 0), (5, .ms H.next sl 1 0 cs.length none)] H1.heap H1.next H1.clk) k Q) :
  Zm Try.prog w0 N0 (some none) (.loop zxb) (st 59 [(13, .int .i64 ((0 : Nat) : Int)), (12, .int .i64 ((cs.map fun c => ([vsI c] : List AV)).length : Nat)), (11, css cs), (5, .nils), (0, .yield id sp), (1, .vptr [css cs]), (3, .mptr a sa 0), (4, .mptr b sb 0)] H.heap H.next H.clk) (.blk 2 :: .seq y :: k) Q := by
 refine z_grow 5 1 rfl ?_
 have hdl := zoc hf
 refine zbj (fun mm S => ∃ i sl H1, mm = cs.length - i ∧ i ≤ cs.length ∧ Keep (fun i => H.next ≤ i) H H1 ∧ H.next < H1.next ∧ Am.look H.next H1.heap = some (sl, .cells (((pick cs ds).take i).map (AV.int .i64))) ∧
   S = st 59 [(0, .yield id sp), (1, .vptr [css cs]), (3, .mptr a sa 0), (4, .mptr b sb 0), (5, .ms H.next sl 1 0 i none), (11, css cs), (12, .int .i64 ((cs.map fun c => ([vsI c] : List AV)).length : Nat)), (13, .int .i64 (i : Nat))] H1.heap H1.next H1.clk) cs.length
  (zaq (.cons rfl (.cons rfl (.cons rfl (.cons rfl (.cons rfl (.cons rfl (.cons rfl (.cons rfl .nil)))))))))
  ⟨0, H.clk, ⟨(H.next, H.clk, .cells []) :: H.heap, H.next + 1, H.clk + 1⟩, rfl, y0q _, ⟨y1a _, y1a _, fun i hi _ => zb1 (by omega)⟩, y0n _, zav, rfl⟩ ?_
 rintro mm S ⟨i, sl, H1, rfl, hi, hK, hlt, hl, rfl⟩
 unfold zxb
 have hcl : (cs.map fun c => ([vsI c] : List AV)).length = cs.length := y07 ..
 refine zsr rfl ?_
 refine zao rfl rfl rfl (fun h3 => ?_) fun h3 => ?_
 ·have hlt2 : i < cs.length := by
   have := of_decide_eq_true h3
   rw [hcl] at this
   omega
  have hg := zy8 hlt2
  have ha1 : Am.look a H1.heap = some (sa, .cells (dg ds)) := (hK.look a (by omega) hla).trans ha
  have hv := zyb (ds := ds) (i := i) (by omega)
  have hfg := zob hf i hlt2 (by omega)
  have hp : (pick cs ds)[i]? = some (cs[i].getD ds[i] 0) := zup hf i hlt2 (by omega)
  have hx : (cs[i].map fun z => ([.int .i64 z] : List AV))[((ds[i] : Nat) : Int).toNat]? = some [.int .i64 (cs[i].getD ds[i] 0)] := by
   rw [zpq _ _ hfg, y08, y06 hfg]
   rfl
  have hne : a ≠ H.next := by omega
  generalize cs[i].getD ds[i] 0 = x at hp hx
  unfold vsI at hg
  generalize cs[i] = c at hg hx
  generalize ds[i] = d at hv hx
  repeat (first | refine za7 ?_ | refine za5 rfl ?_ | refine zai ?_ | refine za8 ?_ | refine zad ?_ | refine zab ?_ | refine zb2 rfl ?_ | refine za1 rfl ?_ | refine za6 rfl rfl ?_ | refine zba rfl rfl (by omega) (by assumption) rfl ?_ | refine zex rfl rfl (decide_eq_true ⟨by omega, by omega⟩) ?_)
  refine zhs rfl ha1 (y0x hla hK.next) hv ?_
  refine zba rfl rfl (y1b d) hx rfl ?_
  refine za6 rfl rfl (zck rfl rfl ?_)
  refine zbp [[.int .i64 x]] rfl rfl (zyd zav) (fun h => Nat.noConfusion h) rfl (by decide) ((zb1 hlt).trans hl) ?_ ?_ ?_
  ·rw [y07, y1w, zkh hf]; omega
  ·show i + 1 ≤ _; omega
  refine za1 rfl (zai (zb9 (za8 (za5 rfl (zb3 (op := .add) rfl rfl rfl (za1 rfl (zai ?_)))))))
  rw [zar i (by omega)]
  refine zat (show cs.length - (i + 1) < cs.length - i by omega) (zaq (.cons rfl (.cons rfl (.cons rfl (.cons rfl (.cons rfl (.cons rfl (.cons rfl (.cons rfl .nil))))))))) ⟨i + 1, _, ⟨_, _, _⟩, rfl, hlt2, ⟨Nat.le_succ_of_le hK.next, by have := hK.clk; show _ ≤ H1.clk + 1 + 1; omega, fun j hj hj2 => ?_⟩, y1y hlt, ?_, rfl⟩
  ·show Am.look j (zb0 _ _ ((_, _) :: _)) = _
   rw [za0, if_neg (by omega), zb1 (by have := hK.next; omega)]
   exact hK.look j hj hj2
  ·show Am.look _ (zb0 _ _ ((_, _) :: _)) = _
   rw [za0, if_pos rfl, y25, hp, y2h]
   rfl
 ·have hi2 : i = cs.length := by
   have := of_decide_eq_false h3
   rw [hcl] at this
   omega
  subst hi2
  rw [y1f (by rw [zkh hf]; exact y0c _)] at hl
  refine onu (za7 (zb5 rfl (zbi (zan (zc9 (zbh (za8 ?_)))))))
  exact zf6 (zaq (.cons rfl (.cons rfl (.cons rfl (.cons rfl (.cons rfl .nil)))))) (fin H1 sl hK hlt hl)
end
theorem inc_step {cs : List (List Int)} {ds : List Nat} {i : Nat} (h1 : i < cs.length) (h2 : i < ds.length) : inc (cs.drop i) (ds.drop i) = if (inc (cs.drop (i + 1)) (ds.drop (i + 1))).1 = true then (if ds[i] + 1 < cs[i].length then (false, (ds[i] + 1) :: (inc (cs.drop (i + 1)) (ds.drop (i + 1))).2) else (true, 0 :: (inc (cs.drop (i + 1)) (ds.drop (i + 1))).2)) else (false, ds[i] :: (inc (cs.drop (i + 1)) (ds.drop (i + 1))).2) := by
 rw [y0d h1, y0d h2, inc]
theorem set_take {ds z : List Nat} {i : Nat} (h : i < ds.length) (x : Nat) : (ds.take (i + 1) ++ z).set i x = ds.take i ++ x :: z := by
 rw [y25, y06 h]
 simp only [Option.toList_some, y1r, List.cons_append, y29]
 have hl : (ds.take i).length = i := by rw [y1w]; omega
 rw [List.set_append_right _ _ (by omega), hl, Nat.sub_self]
 rfl
section
variable {w0 : World} {N0 : Nat} {k : List Fr} {Q : Exit → AS → Prop}
set_option maxHeartbeats 2000000 in
theorem loop80_4 {y : IC} {a sa b sb id sp : Nat} {cs : List (List Int)} {ds : List Nat} {H : HS} (hf : zmb cs ds) (hn : cs.length ≤ 6) (hc : ∀ c ∈ cs, c.length ≤ 1000000) (ha : Am.look a H.heap = some (sa, .cells (dg ds))) (hla : a < H.next)
  (fin : ∀ H1, Keep (fun i => i = a) H H1 → Am.look a H1.heap = some (sa, .cells (dg (inc cs ds).2)) →
   Zm Try.prog w0 N0 (some none) y (st 59 [(0, .yield id sp), (1, .vptr [css cs]), (3, .mptr a sa 0), (4, .mptr b sb 0)] H1.heap H1.next H1.clk) k Q) :
  Zm Try.prog w0 N0 (some none) (.loop zxc) (st 59 [(8, .int .i64 ((cs.length : Int) - 1)), (0, .yield id sp), (1, .vptr [css cs]), (3, .mptr a sa 0), (4, .mptr b sb 0)] H.heap H.next H.clk) (.blk 4 :: .seq y :: k) Q := by
 have hdl := zoc hf
 refine zbj (fun mm S => ∃ H1, mm ≤ cs.length ∧ Keep (fun i => i = a) H H1 ∧ Am.look a H1.heap = some (sa, .cells (dg (ds.take mm ++ List.replicate (cs.length - mm) 0))) ∧ inc (cs.drop mm) (ds.drop mm) = (true, List.replicate (cs.length - mm) 0) ∧
   S = st 59 [(0, .yield id sp), (1, .vptr [css cs]), (3, .mptr a sa 0), (4, .mptr b sb 0), (8, .int .i64 ((mm : Int) - 1))] H1.heap H1.next H1.clk) cs.length
  (zaq (.cons rfl (.cons rfl (.cons rfl (.cons rfl (.cons rfl .nil))))))
  ⟨H, y0c _, .refl _ _, by rw [Nat.sub_self, List.replicate_zero, y0u, y1f (by omega)]; exact ha, by rw [Nat.sub_self, y0p, List.drop_of_length_le (by omega)]; rfl, rfl⟩ ?_
 rintro mm S ⟨H1, hm, hK, hl, hi, rfl⟩
 unfold zxc
 refine za7 (zsr rfl (za1 rfl ?_))
 refine zao rfl rfl rfl (fun h3 => ?_) fun h3 => ?_
 ·have h3 := of_decide_eq_true h3
  obtain ⟨i, rfl⟩ : ∃ i, mm = i + 1 := ⟨mm - 1, by omega⟩
  have e1 : ((i + 1 : Nat) : Int) - 1 = (i : Nat) := by omega
  rw [e1]
  have hi1 : i < cs.length := hm
  have hi2 : i < ds.length := by omega
  have hfg := zob hf i hi1 hi2
  have hcl : cs[i].length ≤ 1000000 := hc _ (y0r hi1)
  have hg := zy8 hi1
  have hla1 : a < H1.next := y0x hla hK.next
  have hE : (ds.take (i + 1) ++ List.replicate (cs.length - (i + 1)) 0).length = cs.length := by simp; omega
  have hgE : (ds.take (i + 1) ++ List.replicate (cs.length - (i + 1)) 0)[i]'(by omega) = ds[i] := by
   rw [List.getElem_append_left (by rw [y1w]; omega), List.getElem_take]
  have hv := zyb (ds := ds.take (i + 1) ++ List.replicate (cs.length - (i + 1)) 0) (i := i) (by omega)
  rw [hgE] at hv
  have hst := inc_step hi1 hi2
  rw [hi, if_pos rfl] at hst
  have hvn : (css cs) = .vs (cs.map fun c => [vsI c]) := rfl
  refine onu (zb2 rfl (zab (za8 (za7 (zad (za7 (zsr rfl (za1 rfl (zex rfl rfl (decide_eq_true ⟨by omega, by omega⟩) ?_)))))))))
  refine zhs rfl hl hla1 hv ?_
  refine zb3 (op := .add) rfl rfl rfl (zex rfl rfl (decide_eq_true ⟨by omega, by omega⟩) ?_)
  rw [zar _ (by omega)]
  refine zel rfl rfl rfl hl (by rw [ztv (by omega), y0y]; omega) rfl ?_
  rw [dg_set (by omega), set_take hi2]
  have hE2 : (ds.take i ++ (ds[i] + 1) :: List.replicate (cs.length - (i + 1)) 0).length = cs.length := by simp; omega
  have hv2 := zyb (ds := ds.take i ++ (ds[i] + 1) :: List.replicate (cs.length - (i + 1)) 0) (i := i) (by omega)
  have hgE2 : (ds.take i ++ (ds[i] + 1) :: List.replicate (cs.length - (i + 1)) 0)[i]'(by omega) = ds[i] + 1 := by
   rw [List.getElem_append_right (by rw [y1w]; omega)]
   simp [y1w, Nat.min_eq_left (Nat.le_of_lt hi2)]
  rw [hgE2] at hv2
  refine onu (za7 (zdo env0_ok rfl rfl rfl (za1 rfl (zex rfl rfl (decide_eq_true ⟨by omega, by omega⟩) ?_))))
  refine zhs rfl (by rw [za0, if_pos rfl]) hla1 hv2 ?_
  refine za6 rfl rfl (za1 rfl (zba rfl rfl (by omega) (by assumption) rfl (za6 rfl rfl (zbb rfl rfl ?_))))
  have hlen : (cs[i].map fun z => ([.int .i64 z] : List AV)).length = cs[i].length := y07 ..
  have hK2 : ∀ o, Keep (fun i => i = a) H ⟨zb0 a o H1.heap, H1.next, H1.clk⟩ := fun o => ⟨hK.next, hK.clk, fun j hj hj2 => by
   show Am.look j (zb0 a _ H1.heap) = _
   rw [za0, if_neg (fun e => hj e.symm)]
   exact hK.look j hj hj2⟩
  refine zao rfl rfl rfl (fun h4 => ?_) fun h4 => ?_
  ·have h4 : ((ds[i] + 1 : Nat) : Int) < ((cs[i].map fun z => ([.int .i64 z] : List AV)).length : Nat) := of_decide_eq_true h4
   rw [if_pos (by omega)] at hst
   have hinc := inc_at i hf (by rw [hst])
   rw [hst] at hinc
   refine onu (zb2 rfl (zbi (zan (zrd rfl (zan ?_)))))
   refine zc9 (zbh (za8 ?_))
   refine zf6 (zaq (.cons rfl (.cons rfl (.cons rfl (.cons rfl .nil))))) (fin ⟨_, _, _⟩ (hK2 _) ?_)
   show Am.look a (zb0 a _ H1.heap) = _
   rw [za0, if_pos rfl, hinc]
  ·have h4 : ¬ ((ds[i] + 1 : Nat) : Int) < ((cs[i].map fun z => ([.int .i64 z] : List AV)).length : Nat) := of_decide_eq_false h4
   rw [if_neg (by omega)] at hst
   refine onu (zb5 rfl (zab (za8 (za5 rfl (za1 rfl (zex rfl rfl (decide_eq_true ⟨by omega, by omega⟩) ?_))))))
   refine zel (cs := dg (ds.take i ++ (ds[i] + 1) :: List.replicate (cs.length - (i + 1)) 0)) rfl rfl rfl (by rw [za0, if_pos rfl]) (by rw [ztv (by omega), y0y]; omega) rfl ?_
   refine zai (zb9 (za8 (za5 rfl (za1 rfl (zb3 (op := .sub) rfl rfl rfl (za1 rfl (zai ?_)))))))
   rw [show IntKind.wrap .i64 (((i : Nat) : Int) - 1) = ((i : Nat) : Int) - 1 from zm3 _ (by omega) (by omega)]
   refine zat (show i < i + 1 by omega) (zaq (.cons rfl (.cons rfl (.cons rfl (.cons rfl (.cons rfl .nil)))))) ⟨⟨zb0 a _ (zb0 a _ H1.heap), H1.next, H1.clk⟩, by omega, ⟨hK.next, hK.clk, fun j hj hj2 => ?_⟩, ?_, ?_, rfl⟩
   ·show Am.look j (zb0 a _ (zb0 a _ H1.heap)) = _
    rw [za0, if_neg (fun e => hj e.symm), za0, if_neg (fun e => hj e.symm)]
    exact hK.look j hj hj2
   ·show Am.look a (zb0 a _ (zb0 a _ H1.heap)) = _
    rw [za0, if_pos rfl]
    have e0 := dg_set (ds := ds.take i ++ (ds[i] + 1) :: List.replicate (cs.length - (i + 1)) 0) (i := i) (by omega) 0
    rw [show (AV.int .i64 0) = .int .i64 ((0 : Nat) : Int) from rfl, e0, List.set_append_right _ _ (by rw [y1w]; omega), y1w, Nat.min_eq_left (by omega), Nat.sub_self, List.set_cons_zero, show cs.length - i = (cs.length - (i + 1)) + 1 from by omega, y24]
   ·rw [hst, show cs.length - i = (cs.length - (i + 1)) + 1 from by omega, y24]
 ·have h3 := of_decide_eq_false h3
  obtain rfl : mm = 0 := by omega
  rw [y14, y14] at hi
  refine onu (zb5 rfl (zbi (zan (zc9 (zbh (za8 ?_))))))
  refine zf6 (zaq (.cons rfl (.cons rfl (.cons rfl (.cons rfl .nil))))) (fin H1 hK ?_)
  rw [hi, hl]
  rfl
end
theorem eq6 {ds : List Nat} {m : Nat} (h : ds.length = m) (hm : m ≤ 6) : ∃ r, zvo (dg ds) (dg (List.replicate m 0)) [(0, .int), (1, .int), (2, .int), (3, .int), (4, .int), (5, .int)] = some r ∧ (r = true ↔ ds = List.replicate m 0) := by
 subst h
 have hz : List.replicate ds.length 0 ++ List.replicate (6 - (List.replicate ds.length 0).length) 0 = List.replicate 6 0 := by
  rw [y0s, y1l]
  congr 1
  omega
 have hl : (ds ++ List.replicate (6 - ds.length) 0).length = 6 := by simp; omega
 have key : ds = List.replicate ds.length 0 ↔ ds ++ List.replicate (6 - ds.length) 0 = List.replicate 6 0 := by
  rw [show (6 : Nat) = ds.length + (6 - ds.length) from by omega, ← y1l]
  constructor
  ·intro h
   rw [show ds.length + (6 - ds.length) - ds.length = 6 - ds.length from by omega, ← h]
  ·intro h
   exact (List.append_inj h (by simp)).1
 rw [key]
 unfold dg
 rw [hz]
 clear key hz
 generalize ds ++ List.replicate (6 - ds.length) 0 = E at hl
 obtain ⟨a, b, c, d, e, f, rfl⟩ : ∃ a b c d e f, E = [a, b, c, d, e, f] := by
  match E, hl with
  | [a, b, c, d, e, f], _ => exact ⟨a, b, c, d, e, f, rfl⟩
 refine ⟨_, rfl, ?_⟩
 simp [y0g, y24]
theorem zya {ds : List Nat} (h : ds.length ≤ 6) : Nat.ble 6 ((dg ds).drop 0).length = true := by rw [y14, ztv h]; rfl
theorem zrz {ds : List Nat} (h : ds.length ≤ 6) : ((dg ds).drop 0).take 6 = dg ds := by rw [y14, y1f (by rw [ztv h]; exact y0c _)]
section
variable {σ τ : Type} {step : σ → List Int → σ ⊕ τ} {M : Nat → Prop} {I : σ → HS → Prop} {J : τ → HS → Prop}
set_option maxHeartbeats 4000000 in
theorem range80 {w0 : World} {N0 id sp : Nat} (hloc : Local M I) {Pr : σ → List Int → Prop} (hy : ∀ s l H, Pr s l → I s H → CT Try.prog w0 N0 (.yield id sp) [vsI l] H (zwp M I J H (step s l))) (cs : List (List Int)) (hn : cs.length ≤ 6) (hc : ∀ c ∈ cs, c ≠ [] ∧ c.length ≤ 1000000) (H : HS) (s : σ) (hI : I s H) (hal : Along step Pr (ze2 cs) s) :
  FT Try.prog w0 N0 130 [.yield id sp, .vptr [css cs]] H fun _ H' => Keep M H H' ∧ match zm9 step (ze2 cs) s with
   | .inl s' => I s' H'
   | .inr t => J t H' := by
 have hcn : ∀ c ∈ cs, c ≠ [] := fun c h => (hc c h).1
 have hlt := hloc.lt s H hI
 refine zfe env0_ok fn130 [(0, .yield id sp), (1, .vptr [css cs])] (by show 2 ≤ 59; decide) rfl ?_
 unfold ic130
 refine zsr rfl (zhr rfl rfl (zay ?_))
 refine zah rfl rfl rfl rfl zav rfl rfl ?_
 rw [zc3]
 refine onr rfl ?_
 refine zdm rfl zav (y0n _) rfl rfl ?_
 refine zay ?_
 refine zah rfl rfl rfl rfl zav rfl rfl ?_
 rw [zc3]
 refine onu (zad ?_)
 have hdz : dg (zjw cs) = [.int .i64 0, .int .i64 0, .int .i64 0, .int .i64 0, .int .i64 0, .int .i64 0] := by
  unfold dg zjw
  rw [y0s, y1l, show cs.length + (6 - cs.length) = 6 from by omega]
  rfl
 refine zbj (fun mm S => ∃ ds s' H' b sb, mm = (rest cs ds).length ∧ zmb cs ds ∧ zm9 step (ze2 cs) s = zm9 step (rest cs ds) s' ∧ Along step Pr (rest cs ds) s' ∧ I s' H' ∧ Keep M H H' ∧ H.next < b ∧ b < H'.next ∧
   Am.look H.next H'.heap = some (H.clk, .cells (dg ds)) ∧ Am.look b H'.heap = some (sb, .cells (dg (zjw cs))) ∧
   S = st 59 [(0, .yield id sp), (1, .vptr [css cs]), (3, .mptr H.next H.clk 0), (4, .mptr b sb 0)] H'.heap H'.next H'.clk) (ze2 cs).length
  (zaq (.cons rfl (.cons rfl (.cons rfl (.cons rfl .nil)))))
  ⟨zjw cs, s, ⟨(H.next + 1, H.clk + 1, .cells [.int .i64 0, .int .i64 0, .int .i64 0, .int .i64 0, .int .i64 0, .int .i64 0]) :: (H.next, H.clk, .cells [.int .i64 0, .int .i64 0, .int .i64 0, .int .i64 0, .int .i64 0, .int .i64 0]) :: H.heap, H.next + 1 + 1, H.clk + 1 + 1⟩, H.next + 1, H.clk + 1, by rw [zft hcn], zjd hcn, by rw [zft hcn], by rw [zft hcn]; exact hal, ?_, ?_, y0n _, y0n _, ?_, ?_, rfl⟩ ?_
 ·refine zjh hloc hI ⟨by show H.next ≤ H.next + 1 + 1; omega, by show H.clk ≤ H.clk + 1 + 1; omega, fun i hi hi2 => ?_⟩
  show Am.look i (_ :: _ :: _) = _
  rw [zb1 (by omega), zb1 (by omega)]
 ·refine ⟨by show H.next ≤ H.next + 1 + 1; omega, by show H.clk ≤ H.clk + 1 + 1; omega, fun i hi hi2 => ?_⟩
  show Am.look i (_ :: _ :: _) = _
  rw [zb1 (by omega), zb1 (by omega)]
 ·show Am.look _ (_ :: _ :: _) = _
  rw [zb1 (by omega), zav, hdz]
 ·show Am.look _ (_ :: _ :: _) = _
  rw [zav, hdz]
 rintro mm S ⟨ds, s', H', b, sb, rfl, hf, hfold, hal', hI', hK, hb, hnx, hla, hlb, rfl⟩
 unfold b130_0
 have na : ¬ M H.next := fun h => Nat.lt_irrefl _ (hlt _ h)
 have nb : ¬ M b := fun h => by have := hlt _ h; omega
 have hlt' := hloc.lt s' H' hI'
 refine za7 (zad (zsr rfl (za1 rfl (onu (za7 (zsr rfl (za6 rfl rfl (zbb rfl rfl (za1 rfl (onu (zad ?_)))))))))))
 refine zf6 (zaq (l' := [(13, .int .i64 ((0 : Nat) : Int)), (12, .int .i64 ((cs.map fun c => ([vsI c] : List AV)).length : Nat)), (11, css cs), (5, .nils), (0, .yield id sp), (1, .vptr [css cs]), (3, .mptr H.next H.clk 0), (4, .mptr b sb 0)]) (.cons rfl (.cons rfl (.cons rfl (.cons rfl (.cons rfl (.cons rfl (.cons rfl (.cons rfl .nil))))))))) ?_
 refine loop80_2 hf hn hla (by omega) fun H1 sl hK1 hn1 hl1 => ?_
 refine z_freeze H'.next sl hl1 (zaj _) (l' := [(0, .yield id sp), (1, .vptr [css cs]), (3, .mptr H.next H.clk 0), (4, .mptr b sb 0), (5, vsI (pick cs ds))]) (.cons rfl .same (.cons rfl .same (.cons rfl .same (.cons rfl .same (.cons rfl (.fms (by rw [y07, zkh hf]) (fun x hx => by obtain ⟨z, _, rfl⟩ := y0o.1 hx; rfl) ⟨[], ?_⟩) .nil))))) ?_
 ·rw [y14, y0u]
  generalize pick cs ds = l
  induction l with
  | nil => rfl
  | cons z l ih => simpa using ih
 have hK2 : Keep (fun i => H'.next ≤ i) H' ⟨zbo H'.next H1.heap, H1.next, H1.clk⟩ := ⟨hK1.next, hK1.clk, fun i hi hi2 => by
  show Am.look i (zbo H'.next H1.heap) = _
  rw [za4, if_neg (by omega)]
  exact hK1.look i hi hi2⟩
 have hrest : ∃ more, rest cs ds = pick cs ds :: more := by
  cases hi : (inc cs ds).1 with
  | true => exact ⟨_, (zij hf hi).2⟩
  | false => exact ⟨_, (zii hf hcn hi).2.1⟩
 obtain ⟨more, hmore⟩ := hrest
 rw [hmore] at hfold hal'
 refine za7 (zsr rfl (za1 rfl (za1 rfl ?_)))
 refine zuk _ rfl rfl (hy s' (pick cs ds) ⟨zbo H'.next H1.heap, H1.next, H1.clk⟩ hal'.1 (zjh hloc hI' hK2)) (fun _ _ _ _ hm => absurd hm y0f) fun v H2 hF => ?_
 obtain ⟨hK3, hF⟩ := hF
 have hM : ∀ {Ha Hb : HS}, Ha.next ≤ Ha.next → Keep (fun i => H'.next ≤ i) H' Hb → Keep M H Hb := fun _ h => ⟨y0t hK.next h.next, y0t hK.clk h.clk, fun i hi hi2 => by
  have := hK.next
  rw [h.look i (by omega) (by omega)]
  exact hK.look i hi hi2⟩
 have hKH2 : Keep M H H2 := (hM (Ha := H) (y0c _) hK2).trans hK3
 have n1 : H'.next ≤ H1.next := hK1.next
 have n2 : H1.next ≤ H2.next := hK3.next
 have la2 : Am.look H.next H2.heap = some (H.clk, .cells (dg ds)) := (hK3.look _ na (show H.next < H1.next by omega)).trans ((hK2.look _ (by omega) (by omega)).trans hla)
 have lb2 : Am.look b H2.heap = some (sb, .cells (dg (zjw cs))) := (hK3.look _ nb (show b < H1.next by omega)).trans ((hK2.look _ (by omega) (by omega)).trans hlb)
 have hfold' : zm9 step (ze2 cs) s = match step s' (pick cs ds) with
   | .inr t => .inr t
   | .inl s2 => zm9 step more s2 := hfold
 cases hst : step s' (pick cs ds) with
 | inr t =>
  rw [hst] at hF
  obtain ⟨rfl, hJ⟩ := hF
  refine zes rfl rfl (onu (zb2 rfl (zaf (za2 (zaa (za2 ?_))))))
  refine zaw ?_
  refine zaa ?_
  refine zae ⟨.inr rfl, _, rfl, hKH2, ?_⟩
  rw [hfold', hst]
  exact hJ
 | inl s2 =>
  rw [hst] at hF
  rw [hst] at hfold'
  replace hfold' : zm9 step (ze2 cs) s = zm9 step more s2 := hfold'
  obtain ⟨rfl, hI2⟩ := hF
  refine zes rfl rfl (onu (zb5 rfl (zab (za8 ?_))))
  have hcl : (cs.map fun c => ([vsI c] : List AV)).length = cs.length := y07 ..
  refine za7 (zsr rfl (za6 rfl rfl (zbb rfl rfl (zb3 (op := .sub) rfl rfl rfl (za1 rfl (onu (zad ?_)))))))
  rw [hcl, zm3 _ (by omega) (by omega)]
  refine zf6 (zaq (l' := [(8, .int .i64 ((cs.length : Int) - 1)), (0, .yield id sp), (1, .vptr [css cs]), (3, .mptr H.next H.clk 0), (4, .mptr b sb 0)]) (.cons rfl (.cons rfl (.cons rfl (.cons rfl (.cons rfl .nil)))))) ?_
  refine loop80_4 hf hn (fun c h => (hc c h).2) la2 (by omega) fun H3 hK4 la3 => ?_
  have lb3 : Am.look b H3.heap = some (sb, .cells (dg (zjw cs))) := (hK4.look _ (by omega) (by omega)).trans lb2
  have n3 : H2.next ≤ H3.next := hK4.next
  have hKH3 : Keep M H H3 := ⟨y0t hKH2.next hK4.next, y0t hKH2.clk hK4.clk, fun i hi hi2 => by
   rw [hK4.look i (by omega) (by omega)]
   exact hKH2.look i hi hi2⟩
  have hI3 : I s2 H3 := hloc.of s2 H2 H3 hI2 hK4.next fun i hm => hK4.look i (fun e => na (e ▸ hm)) (hloc.lt s2 H2 hI2 i hm)
  have hn3 : (inc cs ds).2.length ≤ 6 := by rw [zsh hf]; exact hn
  have hnz : (zjw cs).length ≤ 6 := by simp [zjw]; omega
  obtain ⟨r, hr, hri⟩ := eq6 (zsh hf) hn
  refine zsr rfl ?_
  refine zdm rfl la3 (by omega) (zya hn3) (zrz hn3) ?_
  refine zdm rfl lb3 (by omega) (zya hnz) (zrz hnz) ?_
  refine o_eqs rfl rfl hr (fun h => ?_) fun h => ?_
  ·have h : r = true := h
   have hz := hri.1 h
   have ht : (inc cs ds).1 = true := by
    cases hi : (inc cs ds).1 with
    | true => rfl
    | false => exact absurd hz (zii hf hcn hi).2.2
   have hrt := (zij hf ht).2
   rw [hmore] at hrt
   injection hrt with _ hm0
   subst hm0
   refine onu (zb2 rfl (zaf (zaa (za2 ?_))))
   refine zaw ?_
   refine zaa ?_
   refine zae ⟨.inr rfl, _, rfl, hKH3, ?_⟩
   rw [hfold']
   exact hI3
  ·have h : r = false := h
   have hz : (inc cs ds).1 = false := by
    cases hi : (inc cs ds).1 with
    | false => rfl
    | true => rw [hri.2 (zij hf hi).1] at h; cases h
   obtain ⟨f1, f2, f3⟩ := zii hf hcn hz
   rw [f2] at hmore
   injection hmore with _ hm0
   subst hm0
   refine onu (zb5 rfl (zab (zb9 (za8 ?_))))
   refine za7 ?_
   refine za5 rfl ?_
   refine zdm rfl lb3 (by omega) (zya hnz) (zrz hnz) ?_
   rw [hdz]
   refine onR rfl (zay ?_)
   refine zah rfl rfl rfl rfl zav rfl rfl ?_
   rw [zc3]
   refine zai ?_
   refine zat (show (rest cs (inc cs ds).2).length < (rest cs ds).length by rw [f2]; exact y0n _) (zaq (.cons rfl (.cons rfl (.cons rfl (.cons rfl .nil))))) ⟨(inc cs ds).2, s2, ⟨_, _, _⟩, H3.next, H3.clk, rfl, f1, hfold', hal'.2 _ hst, zjh hloc hI3 ⟨y1a _, y1a _, fun i hi hi2 => zb1 hi2⟩, hKH3.trans ⟨y1a _, y1a _, fun i hi hi2 => zb1 hi2⟩, by omega, y0n _, (zb1 (by omega)).trans la3, zav, rfl⟩
end
def ext (out : List (List Int)) (c : List Int) : List (List Int) := out.flatMap fun p => c.map fun x => p ++ [x]
def cmb : List (List Int) → List (List Int) → List (List Int)
 | out, [] => out
 | out, c :: cs => cmb (ext out c) cs
theorem cmb_eq : ∀ (cs out : List (List Int)), cmb out cs = out.flatMap fun p => (ze2 cs).map (p ++ ·)
 | [], out => by
  rw [cmb, ze2]
  induction out with
  | nil => rfl
  | cons p out ih =>
   rw [List.flatMap_cons, ← ih]
   simp
 | c :: cs, out => by
  rw [cmb, cmb_eq cs, ext, List.flatMap_assoc]
  congr 1
  funext p
  rw [ze2, List.flatMap_map, List.map_flatMap]
  congr 1
  funext x
  rw [y1v]
  apply y1u
  intro l _
  simp
theorem zxz (cs : List (List Int)) : cmb [[]] cs = ze2 cs := by
 rw [cmb_eq]
 simp
def zw7 (out : List (List Int)) : List AV := out.map vsI
theorem zo6 (out : List (List Int)) : css out = .vs ((zw7 out).map fun v => [v]) := by
 unfold css zw7
 rw [y1v]
 rfl
theorem zgy : ∀ out : List (List Int), hasM.hasML (zw7 out) = false
 | [] => rfl
 | p :: out => by
  have := zgy out
  show (hasM (vsI p) || hasM.hasML (zw7 out)) = false
  rw [this]
  rfl
theorem zdj (l : List Int) : (l.map (AV.int .i64)) = (l.map fun z => ([.int .i64 z] : List AV)).flatten := by
 induction l with
 | nil => rfl
 | cons z l ih => simpa using ih
section
variable {w0 : World} {N0 : Nat} {k : List Fr} {Q : Exit → AS → Prop}
end
section
variable {w0 : World} {N0 : Nat} {k : List Fr} {Q : Exit → AS → Prop}
theorem ext_row {out : List (List Int)} {c : List Int} {m : Nat} (h : ∀ p ∈ out, p.length = m) : ∀ p ∈ ext out c, p.length = m + 1 := by
 intro p hp
 unfold ext at hp
 obtain ⟨q, hq, hp⟩ := List.mem_flatMap.1 hp
 obtain ⟨x, _, rfl⟩ := y0o.1 hp
 rw [y0j, h q hq]
 rfl
theorem zy0 : ∀ (cs out : List (List Int)) (m : Nat), (∀ p ∈ out, p.length = m) → ∀ p ∈ cmb out cs, p.length = m + cs.length
 | [], out, m, h => by rw [cmb]; simpa using h
 | c :: cs, out, m, h => by
  intro p hp
  rw [cmb] at hp
  rw [zy0 cs _ (m + 1) (ext_row h) p hp, y0m]
  omega
end
-- slices.Clone[[]pneumatic/api.Expr,pneumatic/api.Expr]
theorem zfz (l : List Ex) : ∀ x ∈ cXs l, x.length = 3 := fun x hx => by
 rw [zmh] at hx
 obtain ⟨y, _, rfl⟩ := y0o.1 hx
 exact zxt y
-- slices.Delete[[]pneumatic/api.Expr,pneumatic/api.Expr]
theorem zy4 (cs : List (List Int)) : ∀ p ∈ ze2 cs, p.length = cs.length := by
 rw [← zxz]
 intro p hp
 have := zy0 cs [[]] 0 (fun p hp => by obtain rfl := y0i.1 hp; rfl) p hp
 omega
theorem whichG {l : List Ex} (hsl : ∀ y ∈ l, Slim y) {n : Nat} (hg : zc0 l n = 0) {p : List Int} (hp : p.length = n) : PF Try.prog 83 [.vs (cXs l), vsI p] (vsI (zh2 l p)) := by
 obtain ⟨g1, g2, g3, g4⟩ := zig hg
 exact yb3 l (by omega) p (by omega) (by omega) (fun y hy => by
  rw [yat, hp]
  exact g4 y hy) hsl
theorem zua {f : FuncId} {args bs : List AV} {v u : AV} {l : List (FuncId × List AV × AV)} (he : bs = args → u = v) (h : ze3 l f args = some v) : ze3 ((f, bs, u) :: l) f args = some v := by
 unfold ze3
 by_cases hc : bs = args
 ·rw [if_pos ⟨rfl, hc⟩, he hc]
 ·rw [if_neg fun hh => hc hh.2]
  exact h
theorem zje : ∀ l : List Bool, (l.map AV.bool) = (l.map fun b => ([.bool b] : List AV)).flatten
 | [] => rfl
 | b :: l => by simpa using zje l
structure Sk where
 a : Int
 o : Bool
structure Sp where
 l : List Sk
 w : Int
def cS (s : Sk) : List AV := [.int .i64 s.a, .bool s.o]
def cSs (l : List Sk) : List (List AV) := l.map cS
def cP (p : Sp) : List AV := [.vs (cSs p.l), .int .i64 p.w]
def cPs (l : List Sp) : List (List AV) := l.map cP
def cQ (n : Int) (l : List Sp) : List AV := [.int .i64 n, .vs (cPs l)]
theorem zbe (l : List Sk) : (cSs l).length = l.length := y07 ..
theorem zct (l : List Sp) : (cPs l).length = l.length := y07 ..
theorem zd4 {l : List Sk} {i : Nat} (h : i < l.length) : (cSs l)[((i : Nat) : Int).toNat]? = some (cS l[i]) := by
 unfold cSs
 rw [y0y, y0h, y06 h]
 rfl
theorem zgp {l : List Sp} {i : Nat} (h : i < l.length) : (cPs l)[((i : Nat) : Int).toNat]? = some (cP l[i]) := by
 unfold cPs
 rw [y0y, y0h, y06 h]
 rfl
def zgb (a : Int) : Bool := decide (a ≥ 0) && decide (a < 6)
-- pneumatic/stroke.known
def ic148 : IC := .seq (.region [oM 2 (.mov (.c (.bool false)))] none)
 (.seq (.region [oT 3 0,
  oM 4 (.bin .geq (.t 3) (.c (.int .i64 0))),
  oT 5 4,
  ⟨(some 6), .mov (.t 0), some (5, true)⟩,
  ⟨(some 7), .bin .lss (.t 6) (.c (.int .i64 6)), some (5, true)⟩,
  oM 8 (.pick (.t 5) (.t 7) (.c (.bool false))),
  oT 2 8] none)
 (.ret))
theorem fn148 : env0.fn 148 = some ⟨9, ic148, [.t 2]⟩ := by kernel_rfl
theorem known109 (a : Int) : PF Try.prog 148 [.int .i64 a] (.bool (zgb a)) := by
 refine zax env0_ok fn148 [(0, .int .i64 a)] (by show 1 ≤ 9; decide) rfl fun w0 N0 => ?_
 unfold ic148 zgb
 refine zsr rfl (za1 rfl (onr rfl (za1 rfl ?_)))
 refine zao rfl rfl rfl (fun h => ?_) fun h => ?_
 ·rw [h]
  refine za1 rfl (zbc rfl (za1 rfl (zbc rfl ?_)))
  refine zao rfl rfl rfl (fun h2 => ?_) fun h2 => ?_
  all_goals
   rw [h2]
   refine zau rfl rfl (za1 rfl (onu (zaf ?_)))
   exact zae ⟨.inr rfl, _, rfl, rfl⟩
 ·rw [h]
  refine za1 rfl (zbz rfl rfl (zbz rfl rfl (zap rfl rfl (za1 rfl (onu (zaf ?_))))))
  exact zae ⟨.inr rfl, _, rfl, rfl⟩
def zhk : Int → List Sk → Int
 | _, [] => 0
 | z, s :: r => if zgb s.a = false then 2 else if (s.a == z) = true then 7 else if decide (s.a < z) = true then 9 else zhk s.a r
def spC (p : Sp) : Int := if p.l.length = 0 then 13 else if p.l.length > 6 then 5 else if zhk (-1) p.l ≠ 0 then zhk (-1) p.l else if p.w < 0 ∨ p.w > 1000000 then 2 else 0
def b149_1 : IC := .seq (.region [oM 20 (.bin .lss (.t 19) (.t 18))] none)
 (.seq (.cond (.t 20) (.skip)
 (.exit 1))
 (.seq (.block 2 (.seq (.region [oM 21 (.idxs 2 (.t 17) (.t 19)),
  oL 22 2 21,
  oM 6 (.alloc [.int .i64 0, .bool false]),
  ⟨none, .store 2 (.t 6) (.t 22), none⟩] none)
 (.seq (.block 3 (.seq (.region [oF 24 0 6,
  oN 25 24,
  oM 26 (.call (.c (.fn 148 [] [])) [(.t 25)]),
  oM 27 (.un .not (.t 26)),
  oT 23 27] none)
 (.cond (.t 23) (.seq (.region [oM 2 (.mov (.c (.int .i64 2)))] none)
 (.ret))
 (.seq (.region [oF 29 0 6,
  oN 30 29,
  oT 31 4,
  oM 32 (.bin .eql (.t 30) (.t 31)),
  oT 28 32] none)
 (.cond (.t 28) (.seq (.region [oM 2 (.mov (.c (.int .i64 7)))] none)
 (.ret))
 (.seq (.region [oF 34 0 6,
  oN 35 34,
  oT 36 4,
  oM 37 (.bin .lss (.t 35) (.t 36)),
  oT 33 37] none)
 (.cond (.t 33) (.seq (.region [oM 2 (.mov (.c (.int .i64 9)))] none)
 (.ret))
 (.skip))))))))
 (.region [oF 38 0 6,
  oN 39 38,
  oT 4 39] none))))
 (.region [oM 40 (.bin .add (.t 19) (.c (.int .i64 1))),
  oT 19 40] none)))
-- pneumatic/stroke.CheckStep
def ic149 : IC := .seq (.region [oM 1 (.box (.t 0)),
  oM 2 (.mov (.c (.int .i64 0)))] none)
 (.seq (.seq (.region [oF 7 0 1,
  oN 8 7,
  oM 9 (.len false (.t 8)),
  oT 3 9] none)
 (.block 0 (.seq (.region [oT 11 3,
  oM 12 (.bin .eql (.t 11) (.c (.int .i64 0))),
  oT 10 12] none)
 (.cond (.t 10) (.seq (.region [oM 2 (.mov (.c (.int .i64 13)))] none)
 (.ret))
 (.seq (.region [oT 14 3,
  oM 15 (.bin .gtr (.t 14) (.c (.int .i64 6))),
  oT 13 15] none)
 (.cond (.t 13) (.seq (.region [oM 2 (.mov (.c (.int .i64 5)))] none)
 (.ret))
 (.skip)))))))
 (.seq (.region [oM 4 (.mov (.c (.int .i64 (-1))))] none)
 (.seq (.seq (.region [oF 16 0 1,
  oN 17 16,
  oM 18 (.len false (.t 17)),
  oM 19 (.mov (.c (.int .i64 0)))] none)
 (.block 1 (.loop b149_1)))
 (.seq (.seq (.region [oF 41 1 1,
  oN 42 41,
  oM 43 (.bin .lss (.t 42) (.c (.int .i64 0))),
  oT 44 43,
  ⟨(some 45), .faddr 1 (.t 1), some (44, false)⟩,
  ⟨(some 46), .load none (.t 45), some (44, false)⟩,
  ⟨(some 47), .bin .gtr (.t 46) (.c (.int .i64 1000000)), some (44, false)⟩,
  oM 48 (.pick (.t 44) (.c (.bool true)) (.t 47))] none)
 (.cond (.t 48) (.seq (.region [oM 2 (.mov (.c (.int .i64 2)))] none)
 (.ret))
 (.skip)))
 (.seq (.region [oM 2 (.mov (.c (.int .i64 0)))] none)
 (.ret))))))
theorem fn149 : env0.fn 149 = some ⟨49, ic149, [.t 2]⟩ := by kernel_rfl
set_option maxHeartbeats 2000000 in
theorem step96 (p : Sp) : PF Try.prog 149 [.agg (cP p)] (.int .i64 (spC p)) := by
 obtain ⟨l, w⟩ := p
 have hcl : (cSs l).length = l.length := zbe l
 refine zax env0_ok fn149 [(0, .agg [.vs (cSs l), .int .i64 w])] (by show 1 ≤ 49; decide) rfl fun w0 N0 => ?_
 unfold ic149
 refine zsr rfl (zbq rfl rfl (za1 rfl (onu (za7 (zsr rfl (za9 rfl (za6 rfl rfl (zbb rfl rfl (za1 rfl (zai ?_))))))))))
 refine za8 (zad (zsr rfl (za1 rfl ?_)))
 refine zao rfl rfl rfl (fun h => ?_) fun h => ?_
 ·have h : (((cSs l).length : Nat) : Int) = 0 := by simpa using h
  rw [show spC ⟨l, w⟩ = 13 from if_pos (by show l.length = 0; omega)]
  refine za1 rfl (onu (zb2 rfl (zsr rfl (za1 rfl (onu (zaf (zaa (za2 ?_))))))))
  exact zae ⟨.inr rfl, _, rfl, rfl⟩
 have h : ¬ (((cSs l).length : Nat) : Int) = 0 := by simpa using h
 refine za1 rfl (onu (zb5 rfl (zsr rfl (za1 rfl ?_))))
 refine zao rfl rfl rfl (fun h2 => ?_) fun h2 => ?_
 ·have h2 : (((cSs l).length : Nat) : Int) > 6 := of_decide_eq_true h2
  rw [show spC ⟨l, w⟩ = 5 from (if_neg (by show ¬ l.length = 0; omega)).trans (if_pos (by show l.length > 6; omega))]
  refine za1 rfl (onu (zb2 rfl (zsr rfl (za1 rfl (onu (zaf (zaa (za2 ?_))))))))
  exact zae ⟨.inr rfl, _, rfl, rfl⟩
 have h2 : ¬ (((cSs l).length : Nat) : Int) > 6 := of_decide_eq_false h2
 have hst : spC ⟨l, w⟩ = if zhk (-1) l ≠ 0 then zhk (-1) l else if w < 0 ∨ w > 1000000 then 2 else 0 := (if_neg (by show ¬ l.length = 0; omega)).trans (if_neg (by show ¬ l.length > 6; omega))
 rw [hst]
 refine za1 rfl (onu (zb5 rfl (zab (zb9 (za8 (zsr rfl (za1 rfl (onu (za7 (za7 ?_))))))))))
 refine za5 rfl (za9 rfl (za6 rfl rfl (zbb rfl rfl (za1 rfl (onu (zad ?_))))))
 refine zbj (fun mm S => ∃ i z, mm = l.length - i ∧ i ≤ l.length ∧ zhk (-1) l = zhk z (l.drop i) ∧
   S = st 49 [(1, .vptr [.vs (cSs l), .int .i64 w]), (4, .int .i64 z), (17, .vs (cSs l)), (18, .int .i64 (cSs l).length), (19, .int .i64 (i : Nat))] [] 0 1) l.length
  (zbd [] [(0, 0, [.vs (cSs l), .int .i64 w])] rfl rfl rfl (.cons rfl rfl .nil) .nil (l' := [(1, .vptr [.vs (cSs l), .int .i64 w]), (4, .int .i64 (-1)), (17, .vs (cSs l)), (18, .int .i64 (cSs l).length), (19, .int .i64 ((0 : Nat) : Int))]) (.cons rfl (.fptr rfl rfl) (.cons rfl (.same rfl) (.cons rfl (.same rfl) (.cons rfl (.same rfl) (.cons rfl (.same rfl) .nil)))))) ⟨0, -1, rfl, y0q _, rfl, rfl⟩ ?_
 rintro mm S ⟨i, z, rfl, hi, hall, rfl⟩
 unfold b149_1
 refine zsr rfl ?_
 refine zao rfl rfl rfl (fun h3 => ?_) fun h3 => ?_
 ·have hlt : i < l.length := by
   have : ((i : Nat) : Int) < ((cSs l).length : Nat) := of_decide_eq_true h3
   rw [hcl] at this
   omega
  have hd : l.drop i = l[i] :: l.drop (i + 1) := y0d hlt
  rw [hd, zhk] at hall
  have hg := zd4 hlt
  generalize l[i] = s at hall hg
  obtain ⟨a, o⟩ := s
  have h109 := known109 a
  have hg : (cSs l)[((i : Nat) : Int).toNat]? = some [.int .i64 a, .bool o] := hg
  have hall : zhk (-1) l = if zgb a = false then 2 else if (a == z) = true then 7 else if decide (a < z) = true then 9 else zhk a (l.drop (i + 1)) := hall
  refine onu (za7 (zb2 rfl (zab (za8 (za7 (zad (zsr rfl (zba rfl rfl (by omega) (by assumption) rfl (zal rfl rfl rfl rfl (zay (zah rfl rfl rfl rfl rfl rfl rfl ?_)))))))))))
  refine onu (za7 (zad (zsr rfl (za9 rfl (za6 rfl rfl ?_)))))
  refine zas rfl rfl h109 noC ?_
  cases hk : zgb a with
  | false =>
   rw [hk, if_pos rfl] at hall
   rw [hall]
   refine zes rfl rfl (za1 rfl (onu (zb2 rfl (zsr rfl (za1 rfl (onu (zaf (zaa (za2 (zaa ?_))))))))))
   refine za2 ?_
   refine zaw ?_
   refine zaa (za2 ?_)
   exact zae ⟨.inr rfl, _, rfl, rfl⟩
  | true =>
   rw [hk, if_neg (by decide)] at hall
   refine zes rfl rfl (za1 rfl (onu (zb5 rfl (zsr rfl (za9 rfl (za6 rfl rfl (za1 rfl ?_)))))))
   refine zao rfl rfl rfl (fun h4 => ?_) fun h4 => ?_
   ·rw [if_pos h4] at hall
    rw [hall]
    refine za1 rfl (onu (zb2 rfl (zsr rfl (za1 rfl (onu (zaf (zaa (za2 (zaa (za2 ?_))))))))))
    refine zaw ?_
    refine zaa (za2 ?_)
    exact zae ⟨.inr rfl, _, rfl, rfl⟩
   rw [if_neg (by rw [h4]; decide)] at hall
   refine za1 rfl (onu (zb5 rfl (zsr rfl (za9 rfl (za6 rfl rfl (za1 rfl ?_))))))
   refine zao rfl rfl rfl (fun h5 => ?_) fun h5 => ?_
   ·rw [if_pos h5] at hall
    rw [hall]
    refine za1 rfl (onu (zb2 rfl (zsr rfl (za1 rfl (onu (zaf (zaa (za2 (zaa (za2 ?_))))))))))
    refine zaw ?_
    refine zaa (za2 ?_)
    exact zae ⟨.inr rfl, _, rfl, rfl⟩
   rw [if_neg (by rw [h5]; decide)] at hall
   refine za1 rfl (onu (zb5 rfl (zab (zb9 (za8 (za5 rfl (za9 rfl (za6 rfl rfl (za1 rfl (zai (zb9 (za8 ?_))))))))))))
   refine za5 rfl (zb3 (op := .add) rfl rfl rfl (za1 rfl (zai ?_)))
   rw [zar i (by omega)]
   exact zat (show l.length - (i + 1) < l.length - i by omega) (zbd [] [] rfl rfl rfl .nil .nil (.cons rfl (.same rfl) (.cons rfl (.same rfl) (.cons rfl (.same rfl) (.cons rfl (.same rfl) (.cons rfl (.same rfl) .nil)))))) ⟨i + 1, a, rfl, hlt, hall, rfl⟩
 ·have hi2 : i = l.length := by
   have : ¬ ((i : Nat) : Int) < ((cSs l).length : Nat) := of_decide_eq_false h3
   rw [hcl] at this
   omega
  rw [hi2, y0p, zhk] at hall
  rw [hall, if_neg (by decide)]
  refine onu (za7 (zb5 rfl (zbi (zan ?_))))
  refine zc9 ?_
  refine zbh (za8 (za7 (zsr rfl (zak rfl rfl rfl (za6 rfl rfl ?_)))))
  refine zao rfl rfl rfl (fun h6 => ?_) fun h6 => ?_
  ·have h6 : w < 0 := of_decide_eq_true h6
   rw [if_pos (.inl h6)]
   refine za1 rfl (zbz rfl rfl (zbz rfl rfl (zbz rfl rfl (zau rfl rfl (onu (zb2 rfl (zsr rfl (za1 rfl (onu (zaf ?_))))))))))
   refine za2 ?_
   exact zae ⟨.inr rfl, _, rfl, rfl⟩
  have h6 : ¬ w < 0 := of_decide_eq_false h6
  refine za1 rfl (zbc rfl (zak rfl rfl rfl (zbc rfl (za6 rfl rfl (zbc rfl ?_)))))
  refine zao rfl rfl rfl (fun h7 => ?_) fun h7 => ?_
  ·have h7 : w > 1000000 := of_decide_eq_true h7
   rw [if_pos (.inr h7)]
   refine zap rfl rfl (onu (zb2 rfl (zsr rfl (za1 rfl (onu (zaf (za2 ?_)))))))
   exact zae ⟨.inr rfl, _, rfl, rfl⟩
  have h7 : ¬ w > 1000000 := of_decide_eq_false h7
  rw [if_neg (by omega)]
  refine zap rfl rfl (onu (zb5 rfl (zab (za8 (zsr rfl (za1 rfl (onu (zaf ?_))))))))
  exact zae ⟨.inr rfl, _, rfl, rfl⟩
def zf4 (a : Int) : List Sk → Int
 | [] => 0
 | s :: r => if (s.a == a) = true then (if s.o = true then 1 else -1) else zf4 a r
def b24_0 : IC := .seq (.seq (.region [oT 6 5,
  oF 7 0 2,
  oN 8 7,
  oM 9 (.len false (.t 8)),
  oM 10 (.bin .lss (.t 6) (.t 9))] none)
 (.cond (.t 10) (.skip)
 (.exit 0)))
 (.seq (.block 1 (.seq (.region [oF 13 0 2,
  oN 14 13,
  oT 15 5,
  oM 16 (.idxs 2 (.t 14) (.t 15)),
  oF 17 0 16,
  oN 18 17,
  oT 19 1,
  oM 20 (.bin .eql (.t 18) (.t 19))] none)
 (.cond (.t 20) (.seq (.seq (.region [oF 21 0 2,
  oN 22 21,
  oT 23 5,
  oM 24 (.idxs 2 (.t 22) (.t 23)),
  oF 25 1 24,
  oN 26 25] none)
 (.cond (.t 26) (.seq (.region [oM 4 (.mov (.c (.int .i64 1)))] none)
 (.ret))
 (.skip)))
 (.seq (.region [oM 4 (.mov (.c (.int .i64 (-1))))] none)
 (.ret)))
 (.skip))))
 (.region [oT 11 5,
  oM 12 (.bin .add (.t 11) (.c (.int .i64 1))),
  oT 5 12] none))
-- pneumatic/pneumaticref13.Way
def ic24 : IC := .seq (.region [oM 2 (.box (.t 0)),
  oM 4 (.mov (.c (.int .i64 0)))] none)
 (.seq (.seq (.region [oM 5 (.mov (.c (.int .i64 0)))] none)
 (.block 0 (.loop b24_0)))
 (.seq (.region [oM 4 (.mov (.c (.int .i64 0)))] none)
 (.ret)))
theorem fn24 : env0.fn 24 = some ⟨27, ic24, [.t 4]⟩ := by kernel_rfl
set_option maxHeartbeats 1000000 in
theorem way33 (p : Sp) (hl : p.l.length ≤ 1000000) (a : Int) : PF Try.prog 24 [.agg (cP p), .int .i64 a] (.int .i64 (zf4 a p.l)) := by
 obtain ⟨l, w⟩ := p
 have hl : l.length ≤ 1000000 := hl
 have hcl : (cSs l).length = l.length := zbe l
 refine zax env0_ok fn24 [(0, .agg [.vs (cSs l), .int .i64 w]), (1, .int .i64 a)] (by show 2 ≤ 27; decide) rfl fun w0 N0 => ?_
 unfold ic24
 refine zsr rfl (zbq rfl rfl (za1 rfl (onu (za7 (zsr rfl (za1 rfl (onu (zad ?_))))))))
 refine zbj (fun mm S => ∃ i, mm = l.length - i ∧ i ≤ l.length ∧ zf4 a l = zf4 a (l.drop i) ∧
   S = st 27 [(1, .int .i64 a), (2, .vptr [.vs (cSs l), .int .i64 w]), (5, .int .i64 (i : Nat))] [] 0 1) l.length
  (zbd [] [(0, 0, [.vs (cSs l), .int .i64 w])] rfl rfl rfl (.cons rfl rfl .nil) .nil (l' := [(1, .int .i64 a), (2, .vptr [.vs (cSs l), .int .i64 w]), (5, .int .i64 ((0 : Nat) : Int))]) (.cons rfl (.same rfl) (.cons rfl (.fptr rfl rfl) (.cons rfl (.same rfl) .nil)))) ⟨0, rfl, y0q _, rfl, rfl⟩ ?_
 rintro mm S ⟨i, rfl, hi, hall, rfl⟩
 unfold b24_0
 refine za7 (zsr rfl (za1 rfl (zak rfl rfl rfl (za6 rfl rfl (zbb rfl rfl ?_)))))
 refine zao rfl rfl rfl (fun h3 => ?_) fun h3 => ?_
 ·have hlt : i < l.length := by
   have : ((i : Nat) : Int) < ((cSs l).length : Nat) := of_decide_eq_true h3
   rw [hcl] at this
   omega
  have hd : l.drop i = l[i] :: l.drop (i + 1) := y0d hlt
  rw [hd, zf4] at hall
  have hg := zd4 hlt
  generalize l[i] = s at hall hg
  obtain ⟨b, o⟩ := s
  have hg : (cSs l)[((i : Nat) : Int).toNat]? = some [.int .i64 b, .bool o] := hg
  have hall : zf4 a l = if (b == a) = true then (if o = true then 1 else -1) else zf4 a (l.drop (i + 1)) := hall
  refine onu (zb2 rfl (zab (za8 (za7 (zad (zsr rfl (zak rfl rfl rfl (za6 rfl rfl (za1 rfl (zba rfl rfl (by omega) (by assumption) rfl (zak rfl rfl rfl ?_)))))))))))
  refine za6 rfl rfl (za1 rfl ?_)
  refine zao rfl rfl rfl (fun h4 => ?_) fun h4 => ?_
  ·rw [if_pos h4] at hall
   rw [hall]
   cases o
   all_goals
    repeat (first | refine za7 ?_ | refine za5 rfl ?_ | refine zai ?_ | refine za8 ?_ | refine zab ?_ | refine zb2 rfl ?_ | refine zb5 rfl ?_ | refine zaf ?_ | refine za2 ?_ | refine zaa ?_ | refine za1 rfl ?_ | refine za6 rfl rfl ?_ | refine zak rfl rfl rfl ?_ | refine zba rfl rfl (by omega) (by assumption) rfl ?_)
    refine zaw ?_
    refine zaa (za2 ?_)
    exact zae ⟨.inr rfl, _, rfl, rfl⟩
  ·rw [if_neg (by rw [h4]; decide)] at hall
   refine onu (zb5 rfl (zab (zb9 (za8 (za5 rfl (za1 rfl (zb3 (op := .add) rfl rfl rfl (za1 rfl (zai ?_)))))))))
   rw [zar i (by omega)]
   exact zat (show l.length - (i + 1) < l.length - i by omega) (zaq (.cons rfl (.cons rfl (.cons rfl .nil)))) ⟨i + 1, rfl, hlt, hall, rfl⟩
 ·have hi2 : i = l.length := by
   have : ¬ ((i : Nat) : Int) < ((cSs l).length : Nat) := of_decide_eq_false h3
   rw [hcl] at this
   omega
  rw [hi2, y0p, zf4] at hall
  rw [hall]
  refine onu (zb5 rfl (zbi (zan ?_)))
  refine zc9 ?_
  refine zbh (za8 (zsr rfl (za1 rfl (onu (zaf ?_)))))
  exact zae ⟨.inr rfl, _, rfl, rfl⟩
def zp0 (a : Int) : List Sp → Bool
 | [] => false
 | p :: r => if (zf4 a p.l != 0) = true then true else zp0 a r
def b87_0 : IC := .seq (.seq (.region [oT 6 5,
  oF 7 1 2,
  oN 8 7,
  oM 9 (.len false (.t 8)),
  oM 10 (.bin .lss (.t 6) (.t 9))] none)
 (.cond (.t 10) (.skip)
 (.exit 0)))
 (.seq (.block 1 (.seq (.region [oF 13 1 2,
  oN 14 13,
  oT 15 5,
  oM 16 (.idxs 2 (.t 14) (.t 15)),
  oL 17 2 16,
  oT 18 1,
  oM 19 (.call (.c (.fn 24 [] [])) [(.t 17), (.t 18)]),
  oM 20 (.bin .neq (.t 19) (.c (.int .i64 0)))] none)
 (.cond (.t 20) (.seq (.region [oM 4 (.mov (.c (.bool true)))] none)
 (.ret))
 (.skip))))
 (.region [oT 11 5,
  oM 12 (.bin .add (.t 11) (.c (.int .i64 1))),
  oT 5 12] none))
-- pneumatic/pneumaticref14.moves
def ic87 : IC := .seq (.region [oM 2 (.box (.t 0)),
  oM 4 (.mov (.c (.bool false)))] none)
 (.seq (.seq (.region [oM 5 (.mov (.c (.int .i64 0)))] none)
 (.block 0 (.loop b87_0)))
 (.seq (.region [oM 4 (.mov (.c (.bool false)))] none)
 (.ret)))
theorem fn87 : env0.fn 87 = some ⟨21, ic87, [.t 4]⟩ := by kernel_rfl
set_option maxHeartbeats 1000000 in
theorem moves62 (n : Int) (l : List Sp) (hl : l.length ≤ 1000000) (hs : ∀ p ∈ l, p.l.length ≤ 1000000) (a : Int) : PF Try.prog 87 [.agg (cQ n l), .int .i64 a] (.bool (zp0 a l)) := by
 have hcl : (cPs l).length = l.length := zct l
 refine zax env0_ok fn87 [(0, .agg [.int .i64 n, .vs (cPs l)]), (1, .int .i64 a)] (by show 2 ≤ 21; decide) rfl fun w0 N0 => ?_
 unfold ic87
 refine zsr rfl (zbq rfl rfl (za1 rfl (onu (za7 (zsr rfl (za1 rfl (onu (zad ?_))))))))
 refine zbj (fun mm S => ∃ i, mm = l.length - i ∧ i ≤ l.length ∧ zp0 a l = zp0 a (l.drop i) ∧
   S = st 21 [(1, .int .i64 a), (2, .vptr [.int .i64 n, .vs (cPs l)]), (5, .int .i64 (i : Nat))] [] 0 1) l.length
  (zbd [] [(0, 0, [.int .i64 n, .vs (cPs l)])] rfl rfl rfl (.cons rfl rfl .nil) .nil (l' := [(1, .int .i64 a), (2, .vptr [.int .i64 n, .vs (cPs l)]), (5, .int .i64 ((0 : Nat) : Int))]) (.cons rfl (.same rfl) (.cons rfl (.fptr rfl rfl) (.cons rfl (.same rfl) .nil)))) ⟨0, rfl, y0q _, rfl, rfl⟩ ?_
 rintro mm S ⟨i, rfl, hi, hall, rfl⟩
 unfold b87_0
 refine za7 (zsr rfl (za1 rfl (zak rfl rfl rfl (za6 rfl rfl (zbb rfl rfl ?_)))))
 refine zao rfl rfl rfl (fun h3 => ?_) fun h3 => ?_
 ·have hlt : i < l.length := by
   have : ((i : Nat) : Int) < ((cPs l).length : Nat) := of_decide_eq_true h3
   rw [hcl] at this
   omega
  have hd : l.drop i = l[i] :: l.drop (i + 1) := y0d hlt
  rw [hd, zp0] at hall
  have hg := zgp hlt
  have h33 := way33 l[i] (hs _ (y0r hlt)) a
  generalize l[i] = p at hall hg h33
  obtain ⟨q, w⟩ := p
  have hg : (cPs l)[((i : Nat) : Int).toNat]? = some [.vs (cSs q), .int .i64 w] := hg
  have h33 : PF Try.prog 24 [.agg [.vs (cSs q), .int .i64 w], .int .i64 a] (.int .i64 (zf4 a q)) := h33
  have hall : zp0 a l = if (zf4 a q != 0) = true then true else zp0 a (l.drop (i + 1)) := hall
  generalize zf4 a q = z at h33 hall
  refine onu (zb2 rfl (zab (za8 (za7 (zad (zsr rfl (zak rfl rfl rfl (za6 rfl rfl (za1 rfl (zba rfl rfl (by omega) (by assumption) rfl (zal rfl rfl rfl rfl ?_)))))))))))
  refine za1 rfl ?_
  refine zas rfl rfl h33 noC ?_
  refine zao rfl rfl rfl (fun h4 => ?_) fun h4 => ?_
  ·rw [if_pos h4] at hall
   rw [hall]
   refine onu (zb2 rfl (zsr rfl (za1 rfl (onu (zaf (zaa (za2 ?_)))))))
   refine zaw ?_
   refine zaa (za2 ?_)
   exact zae ⟨.inr rfl, _, rfl, rfl⟩
  ·rw [if_neg (by rw [h4]; decide)] at hall
   refine onu (zb5 rfl (zab (zb9 (za8 (za5 rfl (za1 rfl (zb3 (op := .add) rfl rfl rfl (za1 rfl (zai ?_)))))))))
   rw [zar i (by omega)]
   exact zat (show l.length - (i + 1) < l.length - i by omega) (zaq (.cons rfl (.cons rfl (.cons rfl .nil)))) ⟨i + 1, rfl, hlt, hall, rfl⟩
 ·have hi2 : i = l.length := by
   have : ¬ ((i : Nat) : Int) < ((cPs l).length : Nat) := of_decide_eq_false h3
   rw [hcl] at this
   omega
  rw [hi2, y0p, zp0] at hall
  rw [hall]
  refine onu (zb5 rfl (zbi (zan ?_)))
  refine zc9 ?_
  refine zbh (za8 (zsr rfl (za1 rfl (onu (zaf ?_)))))
  exact zae ⟨.inr rfl, _, rfl, rfl⟩
def zyg (l : List Sp) : Bool := decide (l.length ≤ 128) && l.all fun p => decide (p.l.length ≤ 40)
def b16_0 : IC := .seq (.seq (.region [oT 8 3,
  oF 9 1 1,
  oN 10 9,
  oM 11 (.len false (.t 10)),
  oM 12 (.bin .lss (.t 8) (.t 11))] none)
 (.cond (.t 12) (.skip)
 (.exit 0)))
 (.seq (.block 1 (.seq (.region [oF 15 1 1,
  oN 16 15,
  oT 17 3,
  oM 18 (.idxs 2 (.t 16) (.t 17)),
  oF 19 0 18,
  oN 20 19,
  oM 21 (.len false (.t 20)),
  oM 22 (.bin .gtr (.t 21) (.c (.int .i64 40)))] none)
 (.cond (.t 22) (.seq (.region [oM 2 (.mov (.c (.bool false)))] none)
 (.ret))
 (.skip))))
 (.region [oT 13 3,
  oM 14 (.bin .add (.t 13) (.c (.int .i64 1))),
  oT 3 14] none))
-- pneumatic/pneumaticref14.Few
def ic16 : IC := .seq (.region [oM 1 (.box (.t 0)),
  oM 2 (.mov (.c (.bool false)))] none)
 (.seq (.seq (.region [oF 4 1 1,
  oN 5 4,
  oM 6 (.len false (.t 5)),
  oM 7 (.bin .gtr (.t 6) (.c (.int .i64 128)))] none)
 (.cond (.t 7) (.seq (.region [oM 2 (.mov (.c (.bool false)))] none)
 (.ret))
 (.skip)))
 (.seq (.seq (.region [oM 3 (.mov (.c (.int .i64 0)))] none)
 (.block 0 (.loop b16_0)))
 (.seq (.region [oM 2 (.mov (.c (.bool true)))] none)
 (.ret))))
theorem fn16 : env0.fn 16 = some ⟨23, ic16, [.t 2]⟩ := by kernel_rfl
theorem few12 (n : Int) (l : List Sp) (hlen : l.length < 9223372036854775808) : PF Try.prog 16 [.agg (cQ n l)] (.bool (zyg l)) := by
 have hcl : (cPs l).length = l.length := zct l
 refine zax env0_ok fn16 [(0, .agg [.int .i64 n, .vs (cPs l)])] (by show 1 ≤ 23; decide) rfl fun w0 N0 => ?_
 unfold ic16
 refine zsr rfl (zbq rfl rfl (za1 rfl (onu (za7 (zsr rfl (za9 rfl (za6 rfl rfl (zbb rfl rfl ?_))))))))
 refine zao rfl rfl rfl (fun h => ?_) fun h => ?_
 ·have h : (((cPs l).length : Nat) : Int) > 128 := of_decide_eq_true h
  rw [show zyg l = false from by unfold zyg; rw [decide_eq_false (by omega), Bool.false_and]]
  refine onu (zb2 rfl (zsr rfl (za1 rfl (onu (zaf (za2 ?_))))))
  exact zae ⟨.inr rfl, _, rfl, rfl⟩
 have h : ¬ (((cPs l).length : Nat) : Int) > 128 := of_decide_eq_false h
 have hf : zyg l = l.all fun p => decide (p.l.length ≤ 40) := by unfold zyg; rw [decide_eq_true (by omega), y2f]
 rw [hf]
 refine onu (zb5 rfl (zab (za8 (za7 (zsr rfl (za1 rfl (onu (zad ?_))))))))
 refine zbj (fun mm S => ∃ i, mm = l.length - i ∧ i ≤ l.length ∧ (l.all fun p => decide (p.l.length ≤ 40)) = ((l.drop i).all fun p => decide (p.l.length ≤ 40)) ∧
   S = st 23 [(1, .vptr [.int .i64 n, .vs (cPs l)]), (3, .int .i64 (i : Nat))] [] 0 1) l.length
  (zbd [] [(0, 0, [.int .i64 n, .vs (cPs l)])] rfl rfl rfl (.cons rfl rfl .nil) .nil (l' := [(1, .vptr [.int .i64 n, .vs (cPs l)]), (3, .int .i64 ((0 : Nat) : Int))]) (.cons rfl (.fptr rfl rfl) (.cons rfl (.same rfl) .nil))) ⟨0, rfl, y0q _, rfl, rfl⟩ ?_
 rintro mm S ⟨i, rfl, hi, hall, rfl⟩
 unfold b16_0
 refine za7 (zsr rfl (za1 rfl (zak rfl rfl rfl (za6 rfl rfl (zbb rfl rfl ?_)))))
 refine zao rfl rfl rfl (fun h3 => ?_) fun h3 => ?_
 ·have hlt : i < l.length := by
   have : ((i : Nat) : Int) < ((cPs l).length : Nat) := of_decide_eq_true h3
   rw [hcl] at this
   omega
  have hd : l.drop i = l[i] :: l.drop (i + 1) := y0d hlt
  rw [hd, y26] at hall
  have hg := zgp hlt
  generalize l[i] = p at hall hg
  obtain ⟨q, w⟩ := p
  have hg : (cPs l)[((i : Nat) : Int).toNat]? = some [.vs (cSs q), .int .i64 w] := hg
  have hall : (l.all fun p => decide (p.l.length ≤ 40)) = (decide (q.length ≤ 40) && (l.drop (i + 1)).all fun p => decide (p.l.length ≤ 40)) := hall
  have hcq : (cSs q).length = q.length := zbe q
  refine onu (zb2 rfl (zab (za8 (za7 (zad (zsr rfl (zak rfl rfl rfl (za6 rfl rfl (za1 rfl (zba rfl rfl (by omega) (by assumption) rfl (zak rfl rfl rfl ?_)))))))))))
  refine za6 rfl rfl (zbb rfl rfl ?_)
  refine zao rfl rfl rfl (fun h4 => ?_) fun h4 => ?_
  ·have h4 : (((cSs q).length : Nat) : Int) > 40 := of_decide_eq_true h4
   rw [decide_eq_false (show ¬ q.length ≤ 40 by omega), Bool.false_and] at hall
   rw [hall]
   refine onu (zb2 rfl (zsr rfl (za1 rfl (onu (zaf (zaa (za2 ?_)))))))
   refine zaw ?_
   refine zaa (za2 ?_)
   exact zae ⟨.inr rfl, _, rfl, rfl⟩
  ·have h4 : ¬ (((cSs q).length : Nat) : Int) > 40 := of_decide_eq_false h4
   rw [decide_eq_true (show q.length ≤ 40 by omega), y2f] at hall
   refine onu (zb5 rfl (zab (zb9 (za8 (za5 rfl (za1 rfl (zb3 (op := .add) rfl rfl rfl (za1 rfl (zai ?_)))))))))
   rw [zar i (by omega)]
   exact zat (show l.length - (i + 1) < l.length - i by omega) (zaq (.cons rfl (.cons rfl .nil))) ⟨i + 1, rfl, hlt, hall, rfl⟩
 ·have hi2 : i = l.length := by
   have : ¬ ((i : Nat) : Int) < ((cPs l).length : Nat) := of_decide_eq_false h3
   rw [hcl] at this
   omega
  rw [hi2, y0p, List.all_nil] at hall
  rw [hall]
  refine onu (zb5 rfl (zbi (zan ?_)))
  refine zc9 ?_
  refine zbh (za8 (zsr rfl (za1 rfl (onu (zaf ?_)))))
  exact zae ⟨.inr rfl, _, rfl, rfl⟩
def zd5 (x : List Bool) (l : List Sk) : Bool := l.all fun s => !(x.getD s.a.toNat false == s.o)
theorem vsB_get {x : List Bool} {a : Int} (h0 : 0 ≤ a) (h : a.toNat < x.length) : (x.map fun b => ([.bool b] : List AV))[a.toNat]? = some [.bool (x.getD a.toNat false)] := by
 rw [y0h, y06 h, y08, y06 h]
 rfl
def b137_0 : IC := .seq (.seq (.region [oT 7 5,
  oF 8 0 2,
  oN 9 8,
  oM 10 (.len false (.t 9)),
  oM 11 (.bin .lss (.t 7) (.t 10))] none)
 (.cond (.t 11) (.skip)
 (.exit 0)))
 (.seq (.block 1 (.seq (.region [oF 14 0 2,
  oN 15 14,
  oT 16 5,
  oM 17 (.idxs 2 (.t 15) (.t 16)),
  oL 18 2 17,
  oM 6 (.alloc [.int .i64 0, .bool false]),
  ⟨none, .store 2 (.t 6) (.t 18), none⟩] none)
 (.seq (.region [oF 19 0 6,
  oN 20 19,
  oT 21 1,
  oM 22 (.len false (.t 21)),
  oM 23 (.bin .geq (.t 20) (.t 22)),
  oT 24 23,
  ⟨(some 25), .mov (.t 1), some (24, false)⟩,
  ⟨(some 26), .faddr 0 (.t 6), some (24, false)⟩,
  ⟨(some 27), .load none (.t 26), some (24, false)⟩,
  ⟨(some 28), .idxs 1 (.t 25) (.t 27), some (24, false)⟩,
  ⟨(some 29), .load none (.t 28), some (24, false)⟩,
  ⟨(some 30), .faddr 1 (.t 6), some (24, false)⟩,
  ⟨(some 31), .load none (.t 30), some (24, false)⟩,
  ⟨(some 32), .eqb false (.t 29) (.t 31), some (24, false)⟩,
  oM 33 (.pick (.t 24) (.c (.bool true)) (.t 32))] (some [[], [0], [], [2], [1, 3], [4], [5], [5], [7, 5], [6, 8, 5], [9, 5], [5], [11, 5], [10, 12, 5], [5, 13]]))
 (.cond (.t 33) (.seq (.region [oM 4 (.mov (.c (.bool false)))] none)
 (.ret))
 (.skip)))))
 (.region [oT 12 5,
  oM 13 (.bin .add (.t 12) (.c (.int .i64 1))),
  oT 5 13] none))
-- pneumatic/pneumaticref13.Suits
def ic137 : IC := .seq (.region [oM 2 (.box (.t 0)),
  oM 4 (.mov (.c (.bool false)))] none)
 (.seq (.seq (.region [oM 5 (.mov (.c (.int .i64 0)))] none)
 (.block 0 (.loop b137_0)))
 (.seq (.region [oM 4 (.mov (.c (.bool true)))] none)
 (.ret)))
theorem fn137 : env0.fn 137 = some ⟨34, ic137, [.t 4]⟩ := by kernel_rfl
theorem suits91 (p : Sp) (x : List Bool) (hl : p.l.length ≤ 1000000) (hx : x.length ≤ 100) (ha : ∀ s ∈ p.l, 0 ≤ s.a ∧ s.a < x.length) : PF Try.prog 137 [.agg (cP p), vsB x] (.bool (zd5 x p.l)) := by
 obtain ⟨l, w⟩ := p
 have hl : l.length ≤ 1000000 := hl
 have ha : ∀ s ∈ l, 0 ≤ s.a ∧ s.a < x.length := ha
 have hcl : (cSs l).length = l.length := zbe l
 have hcx : (x.map fun b => ([.bool b] : List AV)).length = x.length := y07 ..
 refine zax env0_ok fn137 [(0, .agg [.vs (cSs l), .int .i64 w]), (1, vsB x)] (by show 2 ≤ 34; decide) rfl fun w0 N0 => ?_
 unfold ic137
 refine zsr rfl (zbq rfl rfl (za1 rfl (onu (za7 (zsr rfl (za1 rfl (onu (zad ?_))))))))
 refine zbj (fun mm S => ∃ i, mm = l.length - i ∧ i ≤ l.length ∧ zd5 x l = zd5 x (l.drop i) ∧
   S = st 34 [(1, vsB x), (2, .vptr [.vs (cSs l), .int .i64 w]), (5, .int .i64 (i : Nat))] [] 0 1) l.length
  (zbd [] [(0, 0, [.vs (cSs l), .int .i64 w])] rfl rfl rfl (.cons rfl rfl .nil) .nil (l' := [(1, vsB x), (2, .vptr [.vs (cSs l), .int .i64 w]), (5, .int .i64 ((0 : Nat) : Int))]) (.cons rfl (.same rfl) (.cons rfl (.fptr rfl rfl) (.cons rfl (.same rfl) .nil)))) ⟨0, rfl, y0q _, rfl, rfl⟩ ?_
 rintro mm S ⟨i, rfl, hi, hall, rfl⟩
 unfold b137_0
 refine za7 (zsr rfl (za1 rfl (zak rfl rfl rfl (za6 rfl rfl (zbb rfl rfl ?_)))))
 refine zao rfl rfl rfl (fun h3 => ?_) fun h3 => ?_
 ·have hlt : i < l.length := by
   have : ((i : Nat) : Int) < ((cSs l).length : Nat) := of_decide_eq_true h3
   rw [hcl] at this
   omega
  have hd : l.drop i = l[i] :: l.drop (i + 1) := y0d hlt
  rw [hd] at hall
  have hg := zd4 hlt
  obtain ⟨ha0, ha1⟩ := ha _ (y0r hlt)
  generalize l[i] = s at hall hg ha0 ha1
  obtain ⟨a, o⟩ := s
  have ha0 : 0 ≤ a := ha0
  have ha1 : a < x.length := ha1
  have hg : (cSs l)[((i : Nat) : Int).toNat]? = some [.int .i64 a, .bool o] := hg
  have hgx := vsB_get (x := x) ha0 (by omega)
  have hall : zd5 x l = (!(x.getD a.toNat false == o) && zd5 x (l.drop (i + 1))) := hall
  generalize x.getD a.toNat false = b at hgx hall
  refine onu (zb2 rfl (zab (za8 (za7 (zad (zsr rfl (zak rfl rfl rfl (za6 rfl rfl (za1 rfl (zba rfl rfl (by omega) (by assumption) rfl (zal rfl rfl rfl rfl ?_)))))))))))
  refine zay (zah rfl rfl rfl rfl rfl rfl rfl (onu (za7 (zdo env0_ok rfl rfl rfl (za9 rfl (za6 rfl rfl (za1 rfl (zbb rfl rfl ?_))))))))
  refine zao rfl rfl rfl (fun h4 => absurd (of_decide_eq_true h4) (by rw [hcx]; omega)) fun _ => ?_
  cases b <;> cases o
  all_goals
   repeat (first | refine za7 ?_ | refine za5 rfl ?_ | refine zai ?_ | refine za8 ?_ | refine zb9 ?_ | refine zab ?_ | refine zb2 rfl ?_ | refine zb5 rfl ?_ | refine zaf ?_ | refine za2 ?_ | refine zaa ?_ | refine zbc rfl ?_ | refine za1 rfl ?_ | refine za6 rfl rfl ?_ | refine za9 rfl ?_ | refine zap rfl rfl ?_ | refine zb3 (op := .add) rfl rfl rfl ?_ | refine zum rfl rfl rfl ?_ | refine zul rfl rfl rfl ?_ | refine zba rfl rfl (by omega) (by assumption) rfl ?_)
  ·have hall : zd5 x l = false := hall
   rw [hall]
   refine zaw ?_
   refine zaa (za2 ?_)
   exact zae ⟨.inr rfl, _, rfl, rfl⟩
  ·have hall : zd5 x l = zd5 x (l.drop (i + 1)) := hall
   rw [zar i (by omega)]
   exact zat (show l.length - (i + 1) < l.length - i by omega) (zbd [] [] rfl rfl rfl .nil .nil (.cons rfl (.same rfl) (.cons rfl (.same rfl) (.cons rfl (.same rfl) .nil)))) ⟨i + 1, rfl, hlt, hall, rfl⟩
  ·have hall : zd5 x l = zd5 x (l.drop (i + 1)) := hall
   rw [zar i (by omega)]
   exact zat (show l.length - (i + 1) < l.length - i by omega) (zbd [] [] rfl rfl rfl .nil .nil (.cons rfl (.same rfl) (.cons rfl (.same rfl) (.cons rfl (.same rfl) .nil)))) ⟨i + 1, rfl, hlt, hall, rfl⟩
  ·have hall : zd5 x l = false := hall
   rw [hall]
   refine zaw ?_
   refine zaa (za2 ?_)
   exact zae ⟨.inr rfl, _, rfl, rfl⟩
 ·have hi2 : i = l.length := by
   have : ¬ ((i : Nat) : Int) < ((cSs l).length : Nat) := of_decide_eq_false h3
   rw [hcl] at this
   omega
  rw [hi2, y0p] at hall
  rw [hall]
  refine onu (zb5 rfl (zbi (zan ?_)))
  refine zc9 ?_
  refine zbh (za8 (zsr rfl (za1 rfl (onu (zaf ?_)))))
  exact zae ⟨.inr rfl, _, rfl, rfl⟩
def aft (x : List Bool) (l : List Sk) : List Bool := l.foldl (fun x s => x.set s.a.toNat s.o) x
theorem zbu (l : List Sk) : ∀ x : List Bool, (aft x l).length = x.length := by
 induction l with
 | nil => exact fun _ => rfl
 | cons s l ih =>
  intro x
  show (aft (x.set s.a.toNat s.o) l).length = _
  rw [ih, y1i]
theorem znv {x : List Bool} {l : List Sk} {i : Nat} (h : i < l.length) : aft x (l.take (i + 1)) = (aft x (l.take i)).set l[i].a.toNat l[i].o := by
 unfold aft
 rw [y25, y06 h, List.foldl_append]
 rfl
theorem zmg : ∀ l : List Bool, (l.map AV.bool).all AV.isCell = true
 | [] => rfl
 | b :: l => by
  have := zmg l
  rw [y1d, y26, this]
  rfl
def b88_0 : IC := .seq (.seq (.region [oT 10 6,
  oF 11 0 2,
  oN 12 11,
  oM 13 (.len false (.t 12)),
  oM 14 (.bin .lss (.t 10) (.t 13))] none)
 (.cond (.t 14) (.skip)
 (.exit 0)))
 (.seq (.block 1 (.region [oT 17 5,
  oF 18 0 2,
  oN 19 18,
  oT 20 6,
  oM 21 (.idxs 2 (.t 19) (.t 20)),
  oF 22 0 21,
  oN 23 22,
  oF 24 0 2,
  oN 25 24,
  oT 26 6,
  oM 27 (.idxs 2 (.t 25) (.t 26)),
  oF 28 1 27,
  oN 29 28,
  oM 30 (.idxs 1 (.t 17) (.t 23)),
  ⟨none, .store 1 (.t 30) (.t 29), none⟩] (some [[], [], [1], [], [2, 3], [4], [5], [], [7], [], [8, 9], [10], [11], [0, 6, 0, 1, 2, 3, 4, 5, 6, 7, 8, 9, 10, 11, 12], [13, 12, 0, 1, 2, 3, 4, 5, 6, 7, 8, 9, 10, 11, 12]])))
 (.region [oT 15 6,
  oM 16 (.bin .add (.t 15) (.c (.int .i64 1))),
  oT 6 16] none))
-- pneumatic/pneumaticref13.After
def ic88 : IC := .seq (.region [oM 2 (.box (.t 0)),
  oM 4 (.mov (.c (.nils)))] none)
 (.seq (.region [oM 7 (.bslice 1 0 [] []),
  oT 8 1,
  oM 9 (.append 1 1 [.bool false] (.t 7) (.t 8)),
  oT 5 9] none)
 (.seq (.seq (.region [oM 6 (.mov (.c (.int .i64 0)))] none)
 (.block 0 (.loop b88_0)))
 (.seq (.region [oT 31 5,
  oT 4 31] none)
 (.ret))))
theorem fn88 : env0.fn 88 = some ⟨32, ic88, [.t 4]⟩ := by kernel_rfl
set_option maxHeartbeats 1000000 in
theorem after63 (p : Sp) (x : List Bool) (hl : p.l.length ≤ 1000000) (hx0 : 0 < x.length) (hx : x.length ≤ 100) (ha : ∀ s ∈ p.l, 0 ≤ s.a ∧ s.a < x.length) : PF Try.prog 88 [.agg (cP p), vsB x] (vsB (aft x p.l)) := by
 obtain ⟨l, w⟩ := p
 have hl : l.length ≤ 1000000 := hl
 have ha : ∀ s ∈ l, 0 ≤ s.a ∧ s.a < x.length := ha
 have hcl : (cSs l).length = l.length := zbe l
 have hcx : (x.map fun b => ([.bool b] : List AV)).length = x.length := y07 ..
 have hfx : (x.map fun b => ([.bool b] : List AV)).flatten = x.map AV.bool := (zje x).symm
 refine zax env0_ok fn88 [(0, .agg [.vs (cSs l), .int .i64 w]), (1, vsB x)] (by show 2 ≤ 32; decide) rfl fun w0 N0 => ?_
 unfold ic88
 refine zsr rfl (zbq rfl rfl (za1 rfl (onr rfl (zck rfl rfl (za1 rfl ?_)))))
 refine zqq (x.map fun b => ([.bool b] : List AV)) rfl rfl (ztw fun y hy => by obtain ⟨z, _, rfl⟩ := y0o.1 hy; rfl) (by rw [hcx]; omega) (by rw [hfx]; exact zmg x) (by decide) rfl (by omega) ?_
 rw [hfx, hcx]
 refine za1 rfl (onu (za7 (zsr rfl (za1 rfl (onu (zad ?_))))))
 refine zbj (fun mm S => ∃ i, mm = l.length - i ∧ i ≤ l.length ∧
   S = st 32 [(2, .vptr [.vs (cSs l), .int .i64 w]), (5, .ms 0 0 1 0 x.length none), (6, .int .i64 (i : Nat))] [(0, 0, .cells ((aft x (l.take i)).map AV.bool))] 1 1) l.length
  (zbd [(some (2, 2), x.map AV.bool)] [(0, 0, [.vs (cSs l), .int .i64 w])] rfl rfl rfl (.cons rfl rfl .nil) (.cons rfl (.keep (zbl _)) .nil) (l' := [(2, .vptr [.vs (cSs l), .int .i64 w]), (5, .ms 0 0 1 0 x.length none), (6, .int .i64 ((0 : Nat) : Int))]) (.cons rfl (.fptr rfl rfl) (.cons rfl (.ms rfl) (.cons rfl (.same rfl) .nil)))) ⟨0, rfl, y0q _, rfl⟩ ?_
 rintro mm S ⟨i, rfl, hi, rfl⟩
 unfold b88_0
 refine za7 (zsr rfl (za1 rfl (zak rfl rfl rfl (za6 rfl rfl (zbb rfl rfl ?_)))))
 refine zao rfl rfl rfl (fun h3 => ?_) fun h3 => ?_
 ·have hlt : i < l.length := by
   have : ((i : Nat) : Int) < ((cSs l).length : Nat) := of_decide_eq_true h3
   rw [hcl] at this
   omega
  have hg := zd4 hlt
  have htk := znv (x := x) hlt
  have hal := zbu (l.take i) x
  obtain ⟨ha0, ha1⟩ := ha _ (y0r hlt)
  generalize l[i] = s at hg htk ha0 ha1
  obtain ⟨a, o⟩ := s
  have ha0 : 0 ≤ a := ha0
  have ha1 : a < x.length := ha1
  have hg : (cSs l)[((i : Nat) : Int).toNat]? = some [.int .i64 a, .bool o] := hg
  have htk : aft x (l.take (i + 1)) = (aft x (l.take i)).set a.toNat o := htk
  generalize aft x (l.take i) = X at hal htk
  have hset : (X.map AV.bool).set (0 + a.toNat * 1) (.bool o) = (X.set a.toNat o).map AV.bool := by rw [List.map_set, Nat.mul_one, y1j]
  repeat (first | refine za7 ?_ | refine zai ?_ | refine za8 ?_ | refine zad ?_ | refine zab ?_ | refine zb2 rfl ?_ | refine za1 rfl ?_ | refine za6 rfl rfl ?_ | refine zak rfl rfl rfl ?_ | refine zdo env0_ok rfl rfl rfl ?_ | refine zba rfl rfl (by omega) (by assumption) rfl ?_ | refine zb7 rfl rfl (by omega) (by omega) ?_)
  refine zel rfl rfl rfl rfl (by rw [y07]; omega) rfl ?_
  rw [hset]
  refine zai (zb9 (za8 (za5 rfl (za1 rfl (zb3 (op := .add) rfl rfl rfl (za1 rfl (zai ?_)))))))
  rw [zar i (by omega)]
  exact zat (show l.length - (i + 1) < l.length - i by omega) (zbd [(some (0, 0), (X.set a.toNat o).map AV.bool)] [] rfl rfl rfl .nil (.cons rfl (.keep (zbl _)) .nil) (.cons rfl (.same rfl) (.cons rfl (.ms rfl) (.cons rfl (.same rfl) .nil)))) ⟨i + 1, rfl, hlt, by rw [htk]; rfl⟩
 ·have hi2 : i = l.length := by
   have : ¬ ((i : Nat) : Int) < ((cSs l).length : Nat) := of_decide_eq_false h3
   rw [hcl] at this
   omega
  subst hi2
  rw [y1k]
  refine onu (zb5 rfl (zbi (zan ?_)))
  refine zc9 ?_
  refine zbh (za8 (zsr rfl (za1 rfl (za1 rfl (onu (zaf ?_))))))
  have hal := zbu l x
  refine zae ⟨.inr rfl, _, rfl, ?_⟩
  rw [← hal]
  exact zfw (d := 2) (aft x l) rfl
def b121_0 : IC := .seq (.region [oM 11 (.bin .lss (.t 10) (.t 9))] none)
 (.seq (.cond (.t 11) (.skip)
 (.exit 0))
 (.seq (.block 1 (.seq (.region [oM 12 (.idxs 2 (.t 8) (.t 10)),
  oL 13 2 12,
  oM 6 (.alloc [.int .i64 0, .bool false]),
  ⟨none, .store 2 (.t 6) (.t 13), none⟩] none)
 (.region [oF 14 0 6,
  oN 15 14,
  oF 16 1 6,
  oN 17 16,
  oM 18 (.idxarr 6 1 (.t 2) (.t 15)),
  ⟨none, .store 1 (.t 18) (.t 17), none⟩] none)))
 (.region [oM 19 (.bin .add (.t 10) (.c (.int .i64 1))),
  oT 10 19] none)))
-- (pneumatic/sequence.ends).behind
def ic121 : IC := .seq (.region [oM 2 (.box (.t 0)),
  oM 3 (.box (.t 1)),
  oM 4 (.alloc [.bool false, .bool false, .bool false, .bool false, .bool false, .bool false])] none)
 (.seq (.seq (.region [oF 7 0 3,
  oN 8 7,
  oM 9 (.len false (.t 8)),
  oM 10 (.mov (.c (.int .i64 0)))] none)
 (.block 0 (.loop b121_0)))
 (.seq (.region [oL 20 6 2,
  ⟨none, .store 6 (.t 4) (.t 20), none⟩] none)
 (.ret)))
theorem fn121 : env0.fn 121 = some ⟨21, ic121, [.cell 4 (some 6)]⟩ := by kernel_rfl
set_option maxHeartbeats 1000000 in
theorem zti (p : Sp) (x : List Bool) (hl : p.l.length ≤ 1000000) (hx : x.length = 6) (ha : ∀ s ∈ p.l, 0 ≤ s.a ∧ s.a < 6) : PF Try.prog 121 [.agg (x.map AV.bool), .agg (cP p)] (.agg ((aft x p.l).map AV.bool)) := by
 obtain ⟨l, w⟩ := p
 have hl : l.length ≤ 1000000 := hl
 have ha : ∀ s ∈ l, 0 ≤ s.a ∧ s.a < 6 := ha
 have hcl : (cSs l).length = l.length := zbe l
 refine zax env0_ok fn121 [(0, .agg (x.map AV.bool)), (1, .agg [.vs (cSs l), .int .i64 w])] (by show 2 ≤ 21; decide) rfl fun w0 N0 => ?_
 unfold ic121
 refine zsr rfl (zbq rfl rfl (zbq rfl rfl (zay (onu (za7 (zsr rfl (za9 rfl (za6 rfl rfl (zbb rfl rfl (za1 rfl ?_))))))))))
 refine onu (zad ?_)
 refine zbj (fun mm S => ∃ i, mm = l.length - i ∧ i ≤ l.length ∧
   S = st 21 [(2, .mptr 0 0 0), (4, .mptr 1 0 0), (8, .vs (cSs l)), (9, .int .i64 (cSs l).length), (10, .int .i64 (i : Nat))] [(0, 0, .cells ((aft x (l.take i)).map AV.bool)), (1, 0, .cells [.bool false, .bool false, .bool false, .bool false, .bool false, .bool false])] 2 1) l.length
  (zbd [(some (0, 0), x.map AV.bool), (some (2, 2), [.bool false, .bool false, .bool false, .bool false, .bool false, .bool false])] [] rfl rfl rfl .nil (.cons rfl (.keep (zbl _)) (.cons rfl (.keep rfl) .nil)) (l' := [(2, .mptr 0 0 0), (4, .mptr 1 0 0), (8, .vs (cSs l)), (9, .int .i64 (cSs l).length), (10, .int .i64 ((0 : Nat) : Int))]) (.cons rfl (.mptr rfl) (.cons rfl (.mptr rfl) (.cons rfl (.same rfl) (.cons rfl (.same rfl) (.cons rfl (.same rfl) .nil)))))) ⟨0, rfl, y0q _, rfl⟩ ?_
 rintro mm S ⟨i, rfl, hi, rfl⟩
 unfold b121_0
 refine zsr rfl ?_
 refine zao rfl rfl rfl (fun h3 => ?_) fun h3 => ?_
 ·have hlt : i < l.length := by
   have : ((i : Nat) : Int) < ((cSs l).length : Nat) := of_decide_eq_true h3
   rw [hcl] at this
   omega
  have hg := zd4 hlt
  have htk := znv (x := x) hlt
  have hal := zbu (l.take i) x
  obtain ⟨ha0, ha1⟩ := ha _ (y0r hlt)
  generalize l[i] = s at hg htk ha0 ha1
  obtain ⟨a, o⟩ := s
  have ha0 : 0 ≤ a := ha0
  have ha1 : a < 6 := ha1
  have hg : (cSs l)[((i : Nat) : Int).toNat]? = some [.int .i64 a, .bool o] := hg
  have htk : aft x (l.take (i + 1)) = (aft x (l.take i)).set a.toNat o := htk
  generalize aft x (l.take i) = X at hal htk
  have hset : (X.map AV.bool).set (0 + a.toNat * 1) (.bool o) = (X.set a.toNat o).map AV.bool := by rw [List.map_set, Nat.mul_one, y1j]
  refine onu (za7 (zb2 rfl (zab (za8 (za7 (zad (zsr rfl (zba rfl rfl (by omega) (by assumption) rfl (zal rfl rfl rfl rfl (zay (zah rfl rfl rfl rfl rfl rfl rfl ?_)))))))))))
  refine onR rfl (za9 rfl (za6 rfl rfl (za9 rfl (za6 rfl rfl (zex rfl rfl (decide_eq_true ⟨by omega, by omega⟩) ?_)))))
  refine zel rfl rfl rfl rfl (by rw [y07]; omega) rfl ?_
  rw [hset]
  refine zai (zb9 (za8 (za5 rfl (zb3 (op := .add) rfl rfl rfl (za1 rfl (zai ?_))))))
  rw [zar i (by omega)]
  exact zat (show l.length - (i + 1) < l.length - i by omega) (zbd [(some (0, 0), (X.set a.toNat o).map AV.bool), (some (1, 0), [.bool false, .bool false, .bool false, .bool false, .bool false, .bool false])] [] rfl rfl rfl .nil (.cons rfl (.keep (zbl _)) (.cons rfl (.keep rfl) .nil)) (.cons rfl (.mptr rfl) (.cons rfl (.mptr rfl) (.cons rfl (.same rfl) (.cons rfl (.same rfl) (.cons rfl (.same rfl) .nil)))))) ⟨i + 1, rfl, hlt, by rw [htk]; rfl⟩
 ·have hi2 : i = l.length := by
   have : ¬ ((i : Nat) : Int) < ((cSs l).length : Nat) := of_decide_eq_false h3
   rw [hcl] at this
   omega
  subst hi2
  rw [y1k]
  have hal := zbu l x
  generalize aft x l = X at hal
  rw [hx] at hal
  match X, hal with
  | [b0, b1, b2, b3, b4, b5], _ =>
   refine onu (za7 (zb5 rfl (zbi (zan ?_))))
   refine zc9 ?_
   refine zbh (za8 (zsr rfl (zal rfl rfl rfl rfl (zah rfl rfl rfl rfl rfl rfl rfl (onu (zaf ?_))))))
   exact zae ⟨.inr rfl, _, rfl, rfl⟩
end Go.Proofs.Ytoiblgbaeglgoaa
