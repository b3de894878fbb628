/-
  C1, C2, C3, C4 in one text.; C5, C6, TB, D1 in one text.; P1, P2, P4, P5, P6 in one text.; STROKES AND STEPS: stroke.CheckStep.; WAYS OF ACTUATORS, SMALL SEQUENCES: ref13.Way, ref14.moves, ref14.Few.; SMALL SEQUENCES; STROKES THAT SUIT: ref14.Few, ref13.Suits.; ENDS BEHIND A STEP: ref13.After.; ENDS BEHIND A STEP: sequence.ends.behind.; STEPS THAT FIT: sequence.fits.; MEMBERS OF LISTS OF TRUTH VAL
-/
import Derived.Test.YtoiblgbaeglgoaaJX3
import Derived.KernelRfl
namespace Go.Proofs.Ytoiblgbaeglgoaa
open Go Go.Am
def zeh : List (List Int) → List (List Int)
 | [] => [[]]
 | c :: cs => c.flatMap fun x => (zeh cs).map (x :: ·)
def inc : List (List Int) → List Nat → Bool × List Nat
 | c :: cs, d :: ds => if (inc cs ds).1 = true then (if d + 1 < c.length then (false, (d + 1) :: (inc cs ds).2) else (true, 0 :: (inc cs ds).2)) else (false, d :: (inc cs ds).2)
 | _, _ => (true, [])
def rest : List (List Int) → List Nat → List (List Int)
 | c :: cs, d :: ds => (rest cs ds).map (c.getD d 0 :: ·) ++ (c.drop (d + 1)).flatMap fun x => (zeh cs).map (x :: ·)
 | _, _ => [[]]
def pick : List (List Int) → List Nat → List Int
 | c :: cs, d :: ds => c.getD d 0 :: pick cs ds
 | _, _ => []
def zm5 : List (List Int) → List Nat → Prop
 | c :: cs, d :: ds => d < c.length ∧ zm5 cs ds
 | [], [] => True
 | _, _ => False
def zjo (cs : List (List Int)) : List Nat := List.replicate cs.length 0
theorem zo0 : ∀ {cs : List (List Int)} {ds : List Nat}, zm5 cs ds → ds.length = cs.length
 | [], [], _ => rfl
 | [], _ :: _, h => h.elim
 | _ :: _, [], h => h.elim
 | c :: cs, d :: ds, h => by rw [y0n, y0n, zo0 h.2]
theorem znz : ∀ {cs : List (List Int)} {ds : List Nat}, zm5 cs ds → ∀ (i : Nat) (h1 : i < cs.length) (h2 : i < ds.length), ds[i] < cs[i].length
 | [], _, _, i, h1, _ => absurd h1 (y2j _)
 | _ :: _, [], h, _, _, _ => h.elim
 | c :: cs, d :: ds, h, 0, _, _ => h.1
 | c :: cs, d :: ds, h, i + 1, h1, h2 => znz h.2 i (by simpa using h1) (by simpa using h2)
theorem zj2 : ∀ {cs : List (List Int)}, (∀ c ∈ cs, c ≠ []) → zm5 cs (zjo cs)
 | [], _ => trivial
 | c :: _cs, h => ⟨List.length_pos_iff.2 (h c (y05 ..)), zj2 fun c hc => h c (y04 _ hc)⟩
theorem zfm : ∀ {cs : List (List Int)}, (∀ c ∈ cs, c ≠ []) → rest cs (zjo cs) = zeh cs
 | [], _ => rfl
 | c :: cs, h => by
  have ih := zfm (cs := cs) fun c hc => h c (y04 _ hc)
  show rest (c :: cs) (0 :: zjo cs) = _
  obtain ⟨x, xs, rfl⟩ := List.exists_cons_of_ne_nil (h c (y05 ..))
  rw [rest, ih, zeh, List.flatMap_cons]
  rfl
theorem zs3 : ∀ {cs : List (List Int)} {ds : List Nat}, zm5 cs ds → (inc cs ds).2.length = cs.length
 | [], [], _ => rfl
 | [], _ :: _, h => h.elim
 | _ :: _, [], h => h.elim
 | c :: cs, d :: ds, h => by
  have := zs3 h.2
  rw [inc]
  (repeat' split) <;> simp [this]
theorem zi6 : ∀ {cs : List (List Int)} {ds : List Nat}, zm5 cs ds → (inc cs ds).1 = true → (inc cs ds).2 = zjo cs ∧ rest cs ds = [pick cs ds]
 | [], [], _, _ => ⟨rfl, rfl⟩
 | [], _ :: _, h, _ => h.elim
 | _ :: _, [], h, _ => h.elim
 | c :: cs, d :: ds, h, k => by
  rw [inc] at k ⊢
  by_cases h1 : (inc cs ds).1 = true
  ·rw [if_pos h1] at k ⊢
   by_cases h2 : d + 1 < c.length
   ·rw [if_pos h2] at k; cases k
   ·rw [if_neg h2]
    obtain ⟨g1, g2⟩ := zi6 h.2 h1
    refine ⟨by rw [g1]; rfl, ?_⟩
    rw [rest, g2, pick, List.drop_of_length_le (by omega)]
    rfl
  ·rw [if_neg h1] at k; cases k
theorem zi5 : ∀ {cs : List (List Int)} {ds : List Nat}, zm5 cs ds → (∀ c ∈ cs, c ≠ []) → (inc cs ds).1 = false → zm5 cs (inc cs ds).2 ∧ rest cs ds = pick cs ds :: rest cs (inc cs ds).2 ∧ (inc cs ds).2 ≠ zjo cs
 | [], [], _, _, k => by cases k
 | [], _ :: _, h, _, _ => h.elim
 | _ :: _, [], h, _, _ => h.elim
 | c :: cs, d :: ds, h, hne, k => by
  have hne' : ∀ c ∈ cs, c ≠ [] := fun c hc => hne c (y04 _ hc)
  rw [inc] at k ⊢
  by_cases h1 : (inc cs ds).1 = true
  ·rw [if_pos h1] at k ⊢
   by_cases h2 : d + 1 < c.length
   ·rw [if_pos h2]
    obtain ⟨g1, g2⟩ := zi6 h.2 h1
    refine ⟨⟨h2, by rw [g1]; exact zj2 hne'⟩, ?_, fun e => by injection e with e; omega⟩
    rw [rest, g2, g1, pick, rest, zfm hne', y0g h2, List.flatMap_cons, y06, y07 h.1, y06, y07 h2]
    rfl
   ·rw [if_neg h2] at k; cases k
  ·rw [if_neg h1]
   have h1 : (inc cs ds).1 = false := by simpa using h1
   obtain ⟨g1, g2, g3⟩ := zi5 h.2 hne' h1
   refine ⟨⟨h.1, g1⟩, ?_, fun e => g3 (by injection e)⟩
   rw [rest, g2, rest, pick]
   rfl
theorem inc_at : ∀ {cs : List (List Int)} {ds : List Nat} (i : Nat), zm5 cs ds → (inc (cs.drop i) (ds.drop i)).1 = false → inc cs ds = (false, ds.take i ++ (inc (cs.drop i) (ds.drop i)).2)
 | cs, ds, 0, _, h => by
  rw [y14, y14] at h ⊢
  rw [List.take_zero, y28]
  exact Prod.ext h rfl
 | [], [], i + 1, _, h => by simp [inc] at h
 | [], _ :: _, _ + 1, hf, _ => hf.elim
 | _ :: _, [], _ + 1, hf, _ => hf.elim
 | c :: cs, d :: ds, i + 1, hf, h => by
  rw [List.drop_succ_cons, List.drop_succ_cons] at h ⊢
  rw [inc, inc_at i hf.2 h, if_neg (by simp), y1e]
  rfl
theorem zk8 : ∀ {cs : List (List Int)} {ds : List Nat}, zm5 cs ds → (pick cs ds).length = cs.length
 | [], [], _ => rfl
 | [], _ :: _, h => h.elim
 | _ :: _, [], h => h.elim
 | c :: cs, d :: ds, h => by rw [pick, y0n, zk8 h.2, y0n]
theorem zu9 : ∀ {cs : List (List Int)} {ds : List Nat}, zm5 cs ds → ∀ (i : Nat) (h1 : i < cs.length) (h2 : i < ds.length), (pick cs ds)[i]? = some (cs[i].getD ds[i] 0)
 | [], _, _, i, h1, _ => absurd h1 (y2j _)
 | _ :: _, [], h, _, _, _ => h.elim
 | c :: cs, d :: ds, h, 0, _, _ => rfl
 | c :: cs, d :: ds, h, i + 1, h1, h2 => by
  rw [pick, y23]
  exact zu9 h.2 i (by simpa using h1) (by simpa using h2)
def zlz {α σ τ : Type} (step : σ → α → σ ⊕ τ) : List α → σ → σ ⊕ τ
 | [], s => .inl s
 | x :: xs, s => match step s x with
  | .inr t => .inr t
  | .inl s' => zlz step xs s'
def Along {α σ τ : Type} (step : σ → α → σ ⊕ τ) (Pr : σ → α → Prop) : List α → σ → Prop
 | [], _ => True
 | x :: xs, s => Pr s x ∧ ∀ s', step s x = .inl s' → Along step Pr xs s'
def zwy : IC := .seq (.region [oM 14 (.bin .lss (.t 13) (.t 12))] none)
 (.seq (.cond (.t 14) (.skip)
 (.exit 2))
 (.seq (.block 3 (.seq (.region [oT 15 13,
  oM 16 (.idxs 1 (.t 11) (.t 13)),
  oN 17 16,
  oT 6 15,
  oT 7 17] none)
 (.region [oT 18 5,
  oT 19 7,
  oT 20 6,
  oM 21 (.idxarr 6 1 (.t 3) (.t 20)),
  oN 22 21,
  oM 23 (.idxs 1 (.t 19) (.t 22)),
  oN 24 23,
  oM 25 (.bslice 1 1 [.int .i64 0] [(0, 1, (.t 24))]),
  oM 26 (.append 1 8 [.int .i64 0] (.t 18) (.t 25)),
  oT 5 26] none)))
 (.region [oM 27 (.bin .add (.t 13) (.c (.int .i64 1))),
  oT 13 27] none)))
def zwz : IC := .seq (.seq (.region [oT 35 8,
  oM 36 (.bin .geq (.t 35) (.c (.int .i64 0)))] none)
 (.cond (.t 36) (.skip)
 (.exit 4)))
 (.seq (.block 5 (.seq (.seq (.region [oT 39 8,
  oM 40 (.idxarr 6 1 (.t 3) (.t 39)),
  oN 41 40,
  oM 42 (.bin .add (.t 41) (.c (.int .i64 1))),
  oM 43 (.idxarr 6 1 (.t 3) (.t 39)),
  ⟨none, .store 1 (.t 43) (.t 42), none⟩] none)
 (.seq (.region [oT 44 8,
  oM 45 (.idxarr 6 1 (.t 3) (.t 44)),
  oN 46 45,
  oN 47 1,
  oT 48 8,
  oM 49 (.idxs 1 (.t 47) (.t 48)),
  oN 50 49,
  oM 51 (.len false (.t 50)),
  oM 52 (.bin .lss (.t 46) (.t 51))] (some [[], [0], [1], [], [], [3, 4], [5], [6], [2, 7]]))
 (.cond (.t 52) (.exit 4)
 (.skip))))
 (.region [oT 53 8,
  oM 54 (.idxarr 6 1 (.t 3) (.t 53)),
  ⟨none, .store 1 (.t 54) (.c (.int .i64 0)), none⟩] none)))
 (.region [oT 37 8,
  oM 38 (.bin .sub (.t 37) (.c (.int .i64 1))),
  oT 8 38] none))
def b130_0 : IC := .seq (.block 1 (.seq (.region [oM 5 (.mov (.c (.nils)))] none)
 (.seq (.seq (.region [oN 11 1,
  oM 12 (.len false (.t 11)),
  oM 13 (.mov (.c (.int .i64 0)))] none)
 (.block 2 (.loop zwy)))
 (.seq (.seq (.region [oT 28 0,
  oT 29 5,
  oM 30 (.call (.t 28) [(.t 29)]),
  oM 31 (.un .not (.t 30))] none)
 (.cond (.t 31) (.ret)
 (.skip)))
 (.seq (.seq (.region [oN 32 1,
  oM 33 (.len false (.t 32)),
  oM 34 (.bin .sub (.t 33) (.c (.int .i64 1))),
  oT 8 34] none)
 (.block 4 (.loop zwz)))
 (.seq (.region [oL 55 6 3,
  oL 56 6 4,
  oM 57 (.eqs false [(0, .int), (1, .int), (2, .int), (3, .int), (4, .int), (5, .int)] (.t 55) (.t 56))] none)
 (.cond (.t 57) (.ret)
 (.skip))))))))
 (.seq (.region [oL 58 6 4] none)
 (.region [oM 4 (.alloc [.int .i64 0, .int .i64 0, .int .i64 0, .int .i64 0, .int .i64 0, .int .i64 0]),
  ⟨none, .store 6 (.t 4) (.t 58), none⟩] none))
-- pneumatic/guard.combinations$1
def ic130 : IC := .seq (.region [oM 9 (.build [.int .i64 0, .int .i64 0, .int .i64 0, .int .i64 0, .int .i64 0, .int .i64 0] []),
  oM 3 (.alloc [.int .i64 0, .int .i64 0, .int .i64 0, .int .i64 0, .int .i64 0, .int .i64 0]),
  ⟨none, .store 6 (.t 3) (.t 9), none⟩] none)
 (.seq (.region [oL 10 6 3,
  oM 4 (.alloc [.int .i64 0, .int .i64 0, .int .i64 0, .int .i64 0, .int .i64 0, .int .i64 0]),
  ⟨none, .store 6 (.t 4) (.t 10), none⟩] none)
 (.block 0 (.loop b130_0)))
theorem fn130 : env0.fn 130 = some ⟨59, ic130, []⟩ := by kernel_rfl
def css (cs : List (List Int)) : AV := .vs (cs.map fun c => [vsI c])
def dg (ds : List Nat) : List AV := (ds ++ List.replicate (6 - ds.length) 0).map fun d => .int .i64 (d : Nat)
theorem ztk {ds : List Nat} (h : ds.length ≤ 6) : (dg ds).length = 6 := by simp [dg]; omega
theorem zxx {ds : List Nat} {i : Nat} (h : i < ds.length) : (dg ds)[0 + ((i : Nat) : Int).toNat * 1]? = some (.int .i64 (ds[i] : Nat)) := by
 rw [y0w, Nat.mul_one, y1r, dg, y0i, y0u h, y07 h]
 rfl
theorem dg_set {ds : List Nat} {i : Nat} (h : i < ds.length) (z : Nat) : (dg ds).set (0 + ((i : Nat) : Int).toNat * 1) (.int .i64 (z : Nat)) = dg (ds.set i z) := by
 rw [y0w, Nat.mul_one, y1r, dg, dg, y1c, ← List.set_append_left _ _ h, List.map_set]
theorem zxt {cs : List (List Int)} {i : Nat} (h : i < cs.length) : (cs.map fun c => ([vsI c] : List AV))[((i : Nat) : Int).toNat]? = some [vsI cs[i]] := by
 rw [y0w, y0i, y07 h]
 rfl
theorem zxz {n nx ck id sp : Nat} {l : List (Nat × AV)} {hp : List (Nat × Nat × AObj)} {mk : List (Nat × Nat)} {v : AV} {cap : Option Nat} (h : Am.look id hp = some (sp, .cells [v])) : (st n l hp nx ck mk).elems 1 (.ms id sp 1 0 1 cap) = some [[v]] := by
 show (match Am.look id hp with | some (st', .cells cs) => _ | _ => none) = _
 rw [h]
 simp [zdf]
theorem zj6 {σ : Type} {M : Nat → Prop} {I : σ → HS → Prop} (hl : Local M I) {s : σ} {H H' : HS} (h : I s H) (k : Keep (fun i => H.next ≤ i) H H') : I s H' :=
 hl.of s H H' h k.next fun i hm => k.look i (by have := hl.lt s H h i hm; omega) (hl.lt s H h i hm)
section
variable {w0 : World} {N0 : Nat} {k : List Fr} {Q : Exit → AS → Prop}
set_option maxHeartbeats 2000000 in
theorem loop80_2 {y : IC} {a sa b sb id sp : Nat} {cs : List (List Int)} {ds : List Nat} {H : HS} (hf : zm5 cs ds) (hn : cs.length ≤ 6) (ha : Am.look a H.heap = some (sa, .cells (dg ds))) (hla : a < H.next)
  (fin : ∀ H1 sl, Keep (fun i => H.next ≤ i) H H1 → H.next < H1.next → Am.look H.next H1.heap = some (sl, .cells ((pick cs ds).map (AV.int .i64))) →
   Zm Try.prog w0 N0 (some none) y (st 59 [(0, .yield id sp), (1, .vptr [css cs]), (3, .mptr a sa 0), (4, .mptr b sb 0), (5, .ms H.next sl 1 0 cs.length none)] H1.heap H1.next H1.clk) k Q) :
  Zm Try.prog w0 N0 (some none) (.loop zwy) (st 59 [(13, .int .i64 ((0 : Nat) : Int)), (12, .int .i64 ((cs.map fun c => ([vsI c] : List AV)).length : Nat)), (11, css cs), (5, .nils), (0, .yield id sp), (1, .vptr [css cs]), (3, .mptr a sa 0), (4, .mptr b sb 0)] H.heap H.next H.clk) (.blk 2 :: .seq y :: k) Q := by
 refine z_grow 5 1 rfl ?_
 have hdl := zo0 hf
 refine zbu (fun mm S => ∃ i sl H1, mm = cs.length - i ∧ i ≤ cs.length ∧ Keep (fun i => H.next ≤ i) H H1 ∧ H.next < H1.next ∧ Am.look H.next H1.heap = some (sl, .cells (((pick cs ds).take i).map (AV.int .i64))) ∧
   S = st 59 [(0, .yield id sp), (1, .vptr [css cs]), (3, .mptr a sa 0), (4, .mptr b sb 0), (5, .ms H.next sl 1 0 i none), (11, css cs), (12, .int .i64 ((cs.map fun c => ([vsI c] : List AV)).length : Nat)), (13, .int .i64 (i : Nat))] H1.heap H1.next H1.clk) cs.length
  (zan (.cons rfl (.cons rfl (.cons rfl (.cons rfl (.cons rfl (.cons rfl (.cons rfl (.cons rfl .nil)))))))))
  ⟨0, H.clk, ⟨(H.next, H.clk, .cells []) :: H.heap, H.next + 1, H.clk + 1⟩, rfl, y0t _, ⟨y1a _, y1a _, fun i hi _ => zaz (by omega)⟩, y0k _, zar, rfl⟩ ?_
 rintro mm S ⟨i, sl, H1, rfl, hi, hK, hlt, hl, rfl⟩
 unfold zwy
 have hcl : (cs.map fun c => ([vsI c] : List AV)).length = cs.length := y09 ..
 refine zsr rfl ?_
 refine zaq rfl rfl rfl (fun h3 => ?_) fun h3 => ?_
 ·have hlt2 : i < cs.length := by
   have := of_decide_eq_true h3
   rw [hcl] at this
   omega
  have hg := zxt hlt2
  have ha1 : Am.look a H1.heap = some (sa, .cells (dg ds)) := (hK.look a (by omega) hla).trans ha
  have hv := zxx (ds := ds) (i := i) (by omega)
  have hfg := znz hf i hlt2 (by omega)
  have hp : (pick cs ds)[i]? = some (cs[i].getD ds[i] 0) := zu9 hf i hlt2 (by omega)
  have hx : (cs[i].map fun z => ([.int .i64 z] : List AV))[((ds[i] : Nat) : Int).toNat]? = some [.int .i64 (cs[i].getD ds[i] 0)] := by
   rw [zp7 _ _ hfg, y06, y07 hfg]
   rfl
  have hne : a ≠ H.next := by omega
  generalize cs[i].getD ds[i] 0 = x at hp hx
  unfold vsI at hg
  generalize cs[i] = c at hg hx
  generalize ds[i] = d at hv hx
  repeat (first | refine za8 ?_ | refine za5 rfl ?_ | refine zai ?_ | refine zaa ?_ | refine zac ?_ | refine zab ?_ | refine zb4 rfl ?_ | refine za1 rfl ?_ | refine za7 rfl rfl ?_ | refine zbh rfl rfl (by omega) (by assumption) rfl ?_ | refine zev rfl rfl (decide_eq_true ⟨by omega, by omega⟩) ?_)
  refine zhi rfl ha1 (y0v hla hK.next) hv ?_
  refine zbh rfl rfl (y1b d) hx rfl ?_
  refine za7 rfl rfl (zch rfl rfl ?_)
  refine zbf [[.int .i64 x]] rfl rfl (zxz zar) (fun h => Nat.noConfusion h) rfl (by decide) ((zaz hlt).trans hl) ?_ ?_ ?_
  ·rw [y09, y1u, zk8 hf]; omega
  ·show i + 1 ≤ _; omega
  refine za1 rfl (zai (zb7 (zaa (za5 rfl (zb6 (op := .add) rfl rfl rfl (za1 rfl (zai ?_)))))))
  rw [zas i (by omega)]
  refine zav (show cs.length - (i + 1) < cs.length - i by omega) (zan (.cons rfl (.cons rfl (.cons rfl (.cons rfl (.cons rfl (.cons rfl (.cons rfl (.cons rfl .nil))))))))) ⟨i + 1, _, ⟨_, _, _⟩, rfl, hlt2, ⟨Nat.le_succ_of_le hK.next, by have := hK.clk; show _ ≤ H1.clk + 1 + 1; omega, fun j hj hj2 => ?_⟩, y1p hlt, ?_, rfl⟩
  ·show Am.look j (zax _ _ ((_, _) :: _)) = _
   rw [za0, if_neg (by omega), zaz (by have := hK.next; omega)]
   exact hK.look j hj hj2
  ·show Am.look _ (zax _ _ ((_, _) :: _)) = _
   rw [za0, if_pos rfl, y2e, hp, y22]
   rfl
 ·have hi2 : i = cs.length := by
   have := of_decide_eq_false h3
   rw [hcl] at this
   omega
  subst hi2
  rw [y1f (by rw [zk8 hf]; exact y0c _)] at hl
  refine onu (za8 (zb8 rfl (zbm (zao (zcn (zbl (zaa ?_)))))))
  exact zf0 (zan (.cons rfl (.cons rfl (.cons rfl (.cons rfl (.cons rfl .nil)))))) (fin H1 sl hK hlt hl)
end
theorem inc_step {cs : List (List Int)} {ds : List Nat} {i : Nat} (h1 : i < cs.length) (h2 : i < ds.length) : inc (cs.drop i) (ds.drop i) = if (inc (cs.drop (i + 1)) (ds.drop (i + 1))).1 = true then (if ds[i] + 1 < cs[i].length then (false, (ds[i] + 1) :: (inc (cs.drop (i + 1)) (ds.drop (i + 1))).2) else (true, 0 :: (inc (cs.drop (i + 1)) (ds.drop (i + 1))).2)) else (false, ds[i] :: (inc (cs.drop (i + 1)) (ds.drop (i + 1))).2) := by
 rw [y0g h1, y0g h2, inc]
theorem set_take {ds z : List Nat} {i : Nat} (h : i < ds.length) (x : Nat) : (ds.take (i + 1) ++ z).set i x = ds.take i ++ x :: z := by
 rw [y2e, y07 h]
 simp only [Option.toList_some, y1j, List.cons_append, y28]
 have hl : (ds.take i).length = i := by rw [y1u]; omega
 rw [List.set_append_right _ _ (by omega), hl, Nat.sub_self]
 rfl
section
variable {w0 : World} {N0 : Nat} {k : List Fr} {Q : Exit → AS → Prop}
set_option maxHeartbeats 2000000 in
theorem loop80_4 {y : IC} {a sa b sb id sp : Nat} {cs : List (List Int)} {ds : List Nat} {H : HS} (hf : zm5 cs ds) (hn : cs.length ≤ 6) (hc : ∀ c ∈ cs, c.length ≤ 1000000) (ha : Am.look a H.heap = some (sa, .cells (dg ds))) (hla : a < H.next)
  (fin : ∀ H1, Keep (fun i => i = a) H H1 → Am.look a H1.heap = some (sa, .cells (dg (inc cs ds).2)) →
   Zm Try.prog w0 N0 (some none) y (st 59 [(0, .yield id sp), (1, .vptr [css cs]), (3, .mptr a sa 0), (4, .mptr b sb 0)] H1.heap H1.next H1.clk) k Q) :
  Zm Try.prog w0 N0 (some none) (.loop zwz) (st 59 [(8, .int .i64 ((cs.length : Int) - 1)), (0, .yield id sp), (1, .vptr [css cs]), (3, .mptr a sa 0), (4, .mptr b sb 0)] H.heap H.next H.clk) (.blk 4 :: .seq y :: k) Q := by
 have hdl := zo0 hf
 refine zbu (fun mm S => ∃ H1, mm ≤ cs.length ∧ Keep (fun i => i = a) H H1 ∧ Am.look a H1.heap = some (sa, .cells (dg (ds.take mm ++ List.replicate (cs.length - mm) 0))) ∧ inc (cs.drop mm) (ds.drop mm) = (true, List.replicate (cs.length - mm) 0) ∧
   S = st 59 [(0, .yield id sp), (1, .vptr [css cs]), (3, .mptr a sa 0), (4, .mptr b sb 0), (8, .int .i64 ((mm : Int) - 1))] H1.heap H1.next H1.clk) cs.length
  (zan (.cons rfl (.cons rfl (.cons rfl (.cons rfl (.cons rfl .nil))))))
  ⟨H, y0c _, .refl _ _, by rw [Nat.sub_self, List.replicate_zero, y0p, y1f (by omega)]; exact ha, by rw [Nat.sub_self, y0s, List.drop_of_length_le (by omega)]; rfl, rfl⟩ ?_
 rintro mm S ⟨H1, hm, hK, hl, hi, rfl⟩
 unfold zwz
 refine za8 (zsr rfl (za1 rfl ?_))
 refine zaq rfl rfl rfl (fun h3 => ?_) fun h3 => ?_
 ·have h3 := of_decide_eq_true h3
  obtain ⟨i, rfl⟩ : ∃ i, mm = i + 1 := ⟨mm - 1, by omega⟩
  have e1 : ((i + 1 : Nat) : Int) - 1 = (i : Nat) := by omega
  rw [e1]
  have hi1 : i < cs.length := hm
  have hi2 : i < ds.length := by omega
  have hfg := znz hf i hi1 hi2
  have hcl : cs[i].length ≤ 1000000 := hc _ (y0y hi1)
  have hg := zxt hi1
  have hla1 : a < H1.next := y0v hla hK.next
  have hE : (ds.take (i + 1) ++ List.replicate (cs.length - (i + 1)) 0).length = cs.length := by simp; omega
  have hgE : (ds.take (i + 1) ++ List.replicate (cs.length - (i + 1)) 0)[i]'(by omega) = ds[i] := by
   rw [List.getElem_append_left (by rw [y1u]; omega), List.getElem_take]
  have hv := zxx (ds := ds.take (i + 1) ++ List.replicate (cs.length - (i + 1)) 0) (i := i) (by omega)
  rw [hgE] at hv
  have hst := inc_step hi1 hi2
  rw [hi, if_pos rfl] at hst
  have hvn : (css cs) = .vs (cs.map fun c => [vsI c]) := rfl
  refine onu (zb4 rfl (zab (zaa (za8 (zac (za8 (zsr rfl (za1 rfl (zev rfl rfl (decide_eq_true ⟨by omega, by omega⟩) ?_)))))))))
  refine zhi rfl hl hla1 hv ?_
  refine zb6 (op := .add) rfl rfl rfl (zev rfl rfl (decide_eq_true ⟨by omega, by omega⟩) ?_)
  rw [zas _ (by omega)]
  refine ze0 rfl rfl rfl hl (by rw [ztk (by omega), y0w]; omega) rfl ?_
  rw [dg_set (by omega), set_take hi2]
  have hE2 : (ds.take i ++ (ds[i] + 1) :: List.replicate (cs.length - (i + 1)) 0).length = cs.length := by simp; omega
  have hv2 := zxx (ds := ds.take i ++ (ds[i] + 1) :: List.replicate (cs.length - (i + 1)) 0) (i := i) (by omega)
  have hgE2 : (ds.take i ++ (ds[i] + 1) :: List.replicate (cs.length - (i + 1)) 0)[i]'(by omega) = ds[i] + 1 := by
   rw [List.getElem_append_right (by rw [y1u]; omega)]
   simp [y1u, Nat.min_eq_left (Nat.le_of_lt hi2)]
  rw [hgE2] at hv2
  refine onu (za8 (ziy env0_ok rfl rfl rfl (za1 rfl (zev rfl rfl (decide_eq_true ⟨by omega, by omega⟩) ?_))))
  refine zhi rfl (by rw [za0, if_pos rfl]) hla1 hv2 ?_
  refine za7 rfl rfl (za1 rfl (zbh rfl rfl (by omega) (by assumption) rfl (za7 rfl rfl (zbd rfl rfl ?_))))
  have hlen : (cs[i].map fun z => ([.int .i64 z] : List AV)).length = cs[i].length := y09 ..
  have hK2 : ∀ o, Keep (fun i => i = a) H ⟨zax a o H1.heap, H1.next, H1.clk⟩ := fun o => ⟨hK.next, hK.clk, fun j hj hj2 => by
   show Am.look j (zax a _ H1.heap) = _
   rw [za0, if_neg (fun e => hj e.symm)]
   exact hK.look j hj hj2⟩
  refine zaq rfl rfl rfl (fun h4 => ?_) fun h4 => ?_
  ·have h4 : ((ds[i] + 1 : Nat) : Int) < ((cs[i].map fun z => ([.int .i64 z] : List AV)).length : Nat) := of_decide_eq_true h4
   rw [if_pos (by omega)] at hst
   have hinc := inc_at i hf (by rw [hst])
   rw [hst] at hinc
   refine onu (zb4 rfl (zbm (zao (zqz rfl (zao ?_)))))
   refine zcn (zbl (zaa ?_))
   refine zf0 (zan (.cons rfl (.cons rfl (.cons rfl (.cons rfl .nil))))) (fin ⟨_, _, _⟩ (hK2 _) ?_)
   show Am.look a (zax a _ H1.heap) = _
   rw [za0, if_pos rfl, hinc]
  ·have h4 : ¬ ((ds[i] + 1 : Nat) : Int) < ((cs[i].map fun z => ([.int .i64 z] : List AV)).length : Nat) := of_decide_eq_false h4
   rw [if_neg (by omega)] at hst
   refine onu (zb8 rfl (zab (zaa (za5 rfl (za1 rfl (zev rfl rfl (decide_eq_true ⟨by omega, by omega⟩) ?_))))))
   refine ze0 (cs := dg (ds.take i ++ (ds[i] + 1) :: List.replicate (cs.length - (i + 1)) 0)) rfl rfl rfl (by rw [za0, if_pos rfl]) (by rw [ztk (by omega), y0w]; omega) rfl ?_
   refine zai (zb7 (zaa (za5 rfl (za1 rfl (zb6 (op := .sub) rfl rfl rfl (za1 rfl (zai ?_)))))))
   rw [show IntKind.wrap .i64 (((i : Nat) : Int) - 1) = ((i : Nat) : Int) - 1 from zjn _ (by omega) (by omega)]
   refine zav (show i < i + 1 by omega) (zan (.cons rfl (.cons rfl (.cons rfl (.cons rfl (.cons rfl .nil)))))) ⟨⟨zax a _ (zax a _ H1.heap), H1.next, H1.clk⟩, by omega, ⟨hK.next, hK.clk, fun j hj hj2 => ?_⟩, ?_, ?_, rfl⟩
   ·show Am.look j (zax a _ (zax a _ H1.heap)) = _
    rw [za0, if_neg (fun e => hj e.symm), za0, if_neg (fun e => hj e.symm)]
    exact hK.look j hj hj2
   ·show Am.look a (zax a _ (zax a _ H1.heap)) = _
    rw [za0, if_pos rfl]
    have e0 := dg_set (ds := ds.take i ++ (ds[i] + 1) :: List.replicate (cs.length - (i + 1)) 0) (i := i) (by omega) 0
    rw [show (AV.int .i64 0) = .int .i64 ((0 : Nat) : Int) from rfl, e0, List.set_append_right _ _ (by rw [y1u]; omega), y1u, Nat.min_eq_left (by omega), Nat.sub_self, List.set_cons_zero, show cs.length - i = (cs.length - (i + 1)) + 1 from by omega, y25]
   ·rw [hst, show cs.length - i = (cs.length - (i + 1)) + 1 from by omega, y25]
 ·have h3 := of_decide_eq_false h3
  obtain rfl : mm = 0 := by omega
  rw [y14, y14] at hi
  refine onu (zb8 rfl (zbm (zao (zcn (zbl (zaa ?_))))))
  refine zf0 (zan (.cons rfl (.cons rfl (.cons rfl (.cons rfl .nil))))) (fin H1 hK ?_)
  rw [hi, hl]
  rfl
end
theorem eq6 {ds : List Nat} {m : Nat} (h : ds.length = m) (hm : m ≤ 6) : ∃ r, zvc (dg ds) (dg (List.replicate m 0)) [(0, .int), (1, .int), (2, .int), (3, .int), (4, .int), (5, .int)] = some r ∧ (r = true ↔ ds = List.replicate m 0) := by
 subst h
 have hz : List.replicate ds.length 0 ++ List.replicate (6 - (List.replicate ds.length 0).length) 0 = List.replicate 6 0 := by
  rw [y11, y1i]
  congr 1
  omega
 have hl : (ds ++ List.replicate (6 - ds.length) 0).length = 6 := by simp; omega
 have key : ds = List.replicate ds.length 0 ↔ ds ++ List.replicate (6 - ds.length) 0 = List.replicate 6 0 := by
  rw [show (6 : Nat) = ds.length + (6 - ds.length) from by omega, ← y1i]
  constructor
  ·intro h
   rw [show ds.length + (6 - ds.length) - ds.length = 6 - ds.length from by omega, ← h]
  ·intro h
   exact (List.append_inj h (by simp)).1
 rw [key]
 unfold dg
 rw [hz]
 clear key hz
 generalize ds ++ List.replicate (6 - ds.length) 0 = E at hl
 obtain ⟨a, b, c, d, e, f, rfl⟩ : ∃ a b c d e f, E = [a, b, c, d, e, f] := by
  match E, hl with
  | [a, b, c, d, e, f], _ => exact ⟨a, b, c, d, e, f, rfl⟩
 refine ⟨_, rfl, ?_⟩
 simp [y0h, y25]
theorem zxw {ds : List Nat} (h : ds.length ≤ 6) : Nat.ble 6 ((dg ds).drop 0).length = true := by rw [y14, ztk h]; rfl
theorem zrn {ds : List Nat} (h : ds.length ≤ 6) : ((dg ds).drop 0).take 6 = dg ds := by rw [y14, y1f (by rw [ztk h]; exact y0c _)]
section
variable {σ τ : Type} {step : σ → List Int → σ ⊕ τ} {M : Nat → Prop} {I : σ → HS → Prop} {J : τ → HS → Prop}
set_option maxHeartbeats 4000000 in
theorem range80 {w0 : World} {N0 id sp : Nat} (hloc : Local M I) {Pr : σ → List Int → Prop} (hy : ∀ s l H, Pr s l → I s H → CT Try.prog w0 N0 (.yield id sp) [vsI l] H (zwb M I J H (step s l))) (cs : List (List Int)) (hn : cs.length ≤ 6) (hc : ∀ c ∈ cs, c ≠ [] ∧ c.length ≤ 1000000) (H : HS) (s : σ) (hI : I s H) (hal : Along step Pr (zeh cs) s) :
  FT Try.prog w0 N0 130 [.yield id sp, .vptr [css cs]] H fun _ H' => Keep M H H' ∧ match zlz step (zeh cs) s with
   | .inl s' => I s' H'
   | .inr t => J t H' := by
 have hcn : ∀ c ∈ cs, c ≠ [] := fun c h => (hc c h).1
 have hlt := hloc.lt s H hI
 refine zep env0_ok fn130 [(0, .yield id sp), (1, .vptr [css cs])] (by show 2 ≤ 59; decide) rfl ?_
 unfold ic130
 refine zsr rfl (zfd rfl rfl (zau ?_))
 refine zad rfl rfl rfl rfl zar rfl rfl ?_
 rw [zbr]
 refine onr rfl ?_
 refine zcu rfl zar (y0k _) rfl rfl ?_
 refine zau ?_
 refine zad rfl rfl rfl rfl zar rfl rfl ?_
 rw [zbr]
 refine onu (zac ?_)
 have hdz : dg (zjo cs) = [.int .i64 0, .int .i64 0, .int .i64 0, .int .i64 0, .int .i64 0, .int .i64 0] := by
  unfold dg zjo
  rw [y11, y1i, show cs.length + (6 - cs.length) = 6 from by omega]
  rfl
 refine zbu (fun mm S => ∃ ds s' H' b sb, mm = (rest cs ds).length ∧ zm5 cs ds ∧ zlz step (zeh cs) s = zlz step (rest cs ds) s' ∧ Along step Pr (rest cs ds) s' ∧ I s' H' ∧ Keep M H H' ∧ H.next < b ∧ b < H'.next ∧
   Am.look H.next H'.heap = some (H.clk, .cells (dg ds)) ∧ Am.look b H'.heap = some (sb, .cells (dg (zjo cs))) ∧
   S = st 59 [(0, .yield id sp), (1, .vptr [css cs]), (3, .mptr H.next H.clk 0), (4, .mptr b sb 0)] H'.heap H'.next H'.clk) (zeh cs).length
  (zan (.cons rfl (.cons rfl (.cons rfl (.cons rfl .nil)))))
  ⟨zjo cs, s, ⟨(H.next + 1, H.clk + 1, .cells [.int .i64 0, .int .i64 0, .int .i64 0, .int .i64 0, .int .i64 0, .int .i64 0]) :: (H.next, H.clk, .cells [.int .i64 0, .int .i64 0, .int .i64 0, .int .i64 0, .int .i64 0, .int .i64 0]) :: H.heap, H.next + 1 + 1, H.clk + 1 + 1⟩, H.next + 1, H.clk + 1, by rw [zfm hcn], zj2 hcn, by rw [zfm hcn], by rw [zfm hcn]; exact hal, ?_, ?_, y0k _, y0k _, ?_, ?_, rfl⟩ ?_
 ·refine zj6 hloc hI ⟨by show H.next ≤ H.next + 1 + 1; omega, by show H.clk ≤ H.clk + 1 + 1; omega, fun i hi hi2 => ?_⟩
  show Am.look i (_ :: _ :: _) = _
  rw [zaz (by omega), zaz (by omega)]
 ·refine ⟨by show H.next ≤ H.next + 1 + 1; omega, by show H.clk ≤ H.clk + 1 + 1; omega, fun i hi hi2 => ?_⟩
  show Am.look i (_ :: _ :: _) = _
  rw [zaz (by omega), zaz (by omega)]
 ·show Am.look _ (_ :: _ :: _) = _
  rw [zaz (by omega), zar, hdz]
 ·show Am.look _ (_ :: _ :: _) = _
  rw [zar, hdz]
 rintro mm S ⟨ds, s', H', b, sb, rfl, hf, hfold, hal', hI', hK, hb, hnx, hla, hlb, rfl⟩
 unfold b130_0
 have na : ¬ M H.next := fun h => Nat.lt_irrefl _ (hlt _ h)
 have nb : ¬ M b := fun h => by have := hlt _ h; omega
 have hlt' := hloc.lt s' H' hI'
 refine za8 (zac (zsr rfl (za1 rfl (onu (za8 (zsr rfl (za7 rfl rfl (zbd rfl rfl (za1 rfl (onu (zac ?_)))))))))))
 refine zf0 (zan (l' := [(13, .int .i64 ((0 : Nat) : Int)), (12, .int .i64 ((cs.map fun c => ([vsI c] : List AV)).length : Nat)), (11, css cs), (5, .nils), (0, .yield id sp), (1, .vptr [css cs]), (3, .mptr H.next H.clk 0), (4, .mptr b sb 0)]) (.cons rfl (.cons rfl (.cons rfl (.cons rfl (.cons rfl (.cons rfl (.cons rfl (.cons rfl .nil))))))))) ?_
 refine loop80_2 hf hn hla (by omega) fun H1 sl hK1 hn1 hl1 => ?_
 refine z_freeze H'.next sl hl1 (zah _) (l' := [(0, .yield id sp), (1, .vptr [css cs]), (3, .mptr H.next H.clk 0), (4, .mptr b sb 0), (5, vsI (pick cs ds))]) (.cons rfl .same (.cons rfl .same (.cons rfl .same (.cons rfl .same (.cons rfl (.fms (by rw [y09, zk8 hf]) (fun x hx => by obtain ⟨z, _, rfl⟩ := y0o.1 hx; rfl) ⟨[], ?_⟩) .nil))))) ?_
 ·rw [y14, y0p]
  generalize pick cs ds = l
  induction l with
  | nil => rfl
  | cons z l ih => simpa using ih
 have hK2 : Keep (fun i => H'.next ≤ i) H' ⟨zbe H'.next H1.heap, H1.next, H1.clk⟩ := ⟨hK1.next, hK1.clk, fun i hi hi2 => by
  show Am.look i (zbe H'.next H1.heap) = _
  rw [za3, if_neg (by omega)]
  exact hK1.look i hi hi2⟩
 have hrest : ∃ more, rest cs ds = pick cs ds :: more := by
  cases hi : (inc cs ds).1 with
  | true => exact ⟨_, (zi6 hf hi).2⟩
  | false => exact ⟨_, (zi5 hf hcn hi).2.1⟩
 obtain ⟨more, hmore⟩ := hrest
 rw [hmore] at hfold hal'
 refine za8 (zsr rfl (za1 rfl (za1 rfl ?_)))
 refine zsb _ rfl rfl (hy s' (pick cs ds) ⟨zbe H'.next H1.heap, H1.next, H1.clk⟩ hal'.1 (zj6 hloc hI' hK2)) (fun _ _ _ _ hm => absurd hm y0d) fun v H2 hF => ?_
 obtain ⟨hK3, hF⟩ := hF
 have hM : ∀ {Ha Hb : HS}, Ha.next ≤ Ha.next → Keep (fun i => H'.next ≤ i) H' Hb → Keep M H Hb := fun _ h => ⟨y0q hK.next h.next, y0q hK.clk h.clk, fun i hi hi2 => by
  have := hK.next
  rw [h.look i (by omega) (by omega)]
  exact hK.look i hi hi2⟩
 have hKH2 : Keep M H H2 := (hM (Ha := H) (y0c _) hK2).trans hK3
 have n1 : H'.next ≤ H1.next := hK1.next
 have n2 : H1.next ≤ H2.next := hK3.next
 have la2 : Am.look H.next H2.heap = some (H.clk, .cells (dg ds)) := (hK3.look _ na (show H.next < H1.next by omega)).trans ((hK2.look _ (by omega) (by omega)).trans hla)
 have lb2 : Am.look b H2.heap = some (sb, .cells (dg (zjo cs))) := (hK3.look _ nb (show b < H1.next by omega)).trans ((hK2.look _ (by omega) (by omega)).trans hlb)
 have hfold' : zlz step (zeh cs) s = match step s' (pick cs ds) with
   | .inr t => .inr t
   | .inl s2 => zlz step more s2 := hfold
 cases hst : step s' (pick cs ds) with
 | inr t =>
  rw [hst] at hF
  obtain ⟨rfl, hJ⟩ := hF
  refine zfr rfl rfl (onu (zb4 rfl (zak (za4 (zag (za4 ?_))))))
  refine zbb ?_
  refine zag ?_
  refine zaf ⟨.inr rfl, _, rfl, hKH2, ?_⟩
  rw [hfold', hst]
  exact hJ
 | inl s2 =>
  rw [hst] at hF
  rw [hst] at hfold'
  replace hfold' : zlz step (zeh cs) s = zlz step more s2 := hfold'
  obtain ⟨rfl, hI2⟩ := hF
  refine zfr rfl rfl (onu (zb8 rfl (zab (zaa ?_))))
  have hcl : (cs.map fun c => ([vsI c] : List AV)).length = cs.length := y09 ..
  refine za8 (zsr rfl (za7 rfl rfl (zbd rfl rfl (zb6 (op := .sub) rfl rfl rfl (za1 rfl (onu (zac ?_)))))))
  rw [hcl, zjn _ (by omega) (by omega)]
  refine zf0 (zan (l' := [(8, .int .i64 ((cs.length : Int) - 1)), (0, .yield id sp), (1, .vptr [css cs]), (3, .mptr H.next H.clk 0), (4, .mptr b sb 0)]) (.cons rfl (.cons rfl (.cons rfl (.cons rfl (.cons rfl .nil)))))) ?_
  refine loop80_4 hf hn (fun c h => (hc c h).2) la2 (by omega) fun H3 hK4 la3 => ?_
  have lb3 : Am.look b H3.heap = some (sb, .cells (dg (zjo cs))) := (hK4.look _ (by omega) (by omega)).trans lb2
  have n3 : H2.next ≤ H3.next := hK4.next
  have hKH3 : Keep M H H3 := ⟨y0q hKH2.next hK4.next, y0q hKH2.clk hK4.clk, fun i hi hi2 => by
   rw [hK4.look i (by omega) (by omega)]
   exact hKH2.look i hi hi2⟩
  have hI3 : I s2 H3 := hloc.of s2 H2 H3 hI2 hK4.next fun i hm => hK4.look i (fun e => na (e ▸ hm)) (hloc.lt s2 H2 hI2 i hm)
  have hn3 : (inc cs ds).2.length ≤ 6 := by rw [zs3 hf]; exact hn
  have hnz : (zjo cs).length ≤ 6 := by simp [zjo]; omega
  obtain ⟨r, hr, hri⟩ := eq6 (zs3 hf) hn
  refine zsr rfl ?_
  refine zcu rfl la3 (by omega) (zxw hn3) (zrn hn3) ?_
  refine zcu rfl lb3 (by omega) (zxw hnz) (zrn hnz) ?_
  refine o_eqs rfl rfl hr (fun h => ?_) fun h => ?_
  ·have h : r = true := h
   have hz := hri.1 h
   have ht : (inc cs ds).1 = true := by
    cases hi : (inc cs ds).1 with
    | true => rfl
    | false => exact absurd hz (zi5 hf hcn hi).2.2
   have hrt := (zi6 hf ht).2
   rw [hmore] at hrt
   injection hrt with _ hm0
   subst hm0
   refine onu (zb4 rfl (zak (zag (za4 ?_))))
   refine zbb ?_
   refine zag ?_
   refine zaf ⟨.inr rfl, _, rfl, hKH3, ?_⟩
   rw [hfold']
   exact hI3
  ·have h : r = false := h
   have hz : (inc cs ds).1 = false := by
    cases hi : (inc cs ds).1 with
    | false => rfl
    | true => rw [hri.2 (zi6 hf hi).1] at h; cases h
   obtain ⟨f1, f2, f3⟩ := zi5 hf hcn hz
   rw [f2] at hmore
   injection hmore with _ hm0
   subst hm0
   refine onu (zb8 rfl (zab (zb7 (zaa ?_))))
   refine za8 ?_
   refine za5 rfl ?_
   refine zcu rfl lb3 (by omega) (zxw hnz) (zrn hnz) ?_
   rw [hdz]
   refine onR rfl (zau ?_)
   refine zad rfl rfl rfl rfl zar rfl rfl ?_
   rw [zbr]
   refine zai ?_
   refine zav (show (rest cs (inc cs ds).2).length < (rest cs ds).length by rw [f2]; exact y0k _) (zan (.cons rfl (.cons rfl (.cons rfl (.cons rfl .nil))))) ⟨(inc cs ds).2, s2, ⟨_, _, _⟩, H3.next, H3.clk, rfl, f1, hfold', hal'.2 _ hst, zj6 hloc hI3 ⟨y1a _, y1a _, fun i hi hi2 => zaz hi2⟩, hKH3.trans ⟨y1a _, y1a _, fun i hi hi2 => zaz hi2⟩, by omega, y0k _, (zaz (by omega)).trans la3, zar, rfl⟩
end
def ext (out : List (List Int)) (c : List Int) : List (List Int) := out.flatMap fun p => c.map fun x => p ++ [x]
def cmb : List (List Int) → List (List Int) → List (List Int)
 | out, [] => out
 | out, c :: cs => cmb (ext out c) cs
theorem cmb_eq : ∀ (cs out : List (List Int)), cmb out cs = out.flatMap fun p => (zeh cs).map (p ++ ·)
 | [], out => by
  rw [cmb, zeh]
  induction out with
  | nil => rfl
  | cons p out ih =>
   rw [List.flatMap_cons, ← ih]
   simp
 | c :: cs, out => by
  rw [cmb, cmb_eq cs, ext, List.flatMap_assoc]
  congr 1
  funext p
  rw [zeh, List.flatMap_map, List.map_flatMap]
  congr 1
  funext x
  rw [y1y]
  apply y1w
  intro l _
  simp
theorem zxm (cs : List (List Int)) : cmb [[]] cs = zeh cs := by
 rw [cmb_eq]
 simp
def zvt (out : List (List Int)) : List AV := out.map vsI
theorem znv (out : List (List Int)) : css out = .vs ((zvt out).map fun v => [v]) := by
 unfold css zvt
 rw [y1y]
 rfl
theorem zgp : ∀ out : List (List Int), hasM.hasML (zvt out) = false
 | [] => rfl
 | p :: out => by
  have := zgp out
  show (hasM (vsI p) || hasM.hasML (zvt out)) = false
  rw [this]
  rfl
theorem zdg (l : List Int) : (l.map (AV.int .i64)) = (l.map fun z => ([.int .i64 z] : List AV)).flatten := by
 induction l with
 | nil => rfl
 | cons z l ih => simpa using ih
section
variable {w0 : World} {N0 : Nat} {k : List Fr} {Q : Exit → AS → Prop}
end
section
variable {w0 : World} {N0 : Nat} {k : List Fr} {Q : Exit → AS → Prop}
theorem ext_row {out : List (List Int)} {c : List Int} {m : Nat} (h : ∀ p ∈ out, p.length = m) : ∀ p ∈ ext out c, p.length = m + 1 := by
 intro p hp
 unfold ext at hp
 obtain ⟨q, hq, hp⟩ := y2g.1 hp
 obtain ⟨x, _, rfl⟩ := y0o.1 hp
 rw [y0j, h q hq]
 rfl
theorem zxn : ∀ (cs out : List (List Int)) (m : Nat), (∀ p ∈ out, p.length = m) → ∀ p ∈ cmb out cs, p.length = m + cs.length
 | [], out, m, h => by rw [cmb]; simpa using h
 | c :: cs, out, m, h => by
  intro p hp
  rw [cmb] at hp
  rw [zxn cs _ (m + 1) (ext_row h) p hp, y0n]
  omega
end
-- slices.Clone[[]pneumatic/api.Expr,pneumatic/api.Expr]
theorem zft (l : List Ex) : ∀ x ∈ cXs l, x.length = 3 := fun x hx => by
 rw [zma] at hx
 obtain ⟨y, _, rfl⟩ := y0o.1 hx
 exact zxe y
-- slices.Delete[[]pneumatic/api.Expr,pneumatic/api.Expr]
theorem zpq (cs : List (List Int)) : ∀ p ∈ zeh cs, p.length = cs.length := by
 rw [← zxm]
 intro p hp
 have := zxn cs [[]] 0 (fun p hp => by obtain rfl := y0e.1 hp; rfl) p hp
 omega
theorem whichG {l : List Ex} (hsl : ∀ y ∈ l, Slim y) {n : Nat} (hg : zcc l n = 0) {p : List Int} (hp : p.length = n) : PF Try.prog 83 [.vs (cXs l), vsI p] (vsI (ziu l p)) := by
 obtain ⟨g1, g2, g3, g4⟩ := zla hg
 exact yas l (by omega) p (by omega) (by omega) (fun y hy => by
  rw [yag, hp]
  exact g4 y hy) hsl
theorem ztv {f : FuncId} {args bs : List AV} {v u : AV} {l : List (FuncId × List AV × AV)} (he : bs = args → u = v) (h : zdx l f args = some v) : zdx ((f, bs, u) :: l) f args = some v := by
 unfold zdx
 by_cases hc : bs = args
 ·rw [if_pos ⟨rfl, hc⟩, he hc]
 ·rw [if_neg fun hh => hc hh.2]
  exact h
structure Sk where
 a : Int
 o : Bool
structure Sp where
 l : List Sk
 w : Int
def cS (s : Sk) : List AV := [.int .i64 s.a, .bool s.o]
def cSs (l : List Sk) : List (List AV) := l.map cS
def cP (p : Sp) : List AV := [.vs (cSs p.l), .int .i64 p.w]
def cPs (l : List Sp) : List (List AV) := l.map cP
def cQ (n : Int) (l : List Sp) : List AV := [.int .i64 n, .vs (cPs l)]
theorem zc3 (l : List Sk) : (cSs l).length = l.length := y09 ..
theorem zfh (l : List Sp) : (cPs l).length = l.length := y09 ..
theorem zdo {l : List Sk} {i : Nat} (h : i < l.length) : (cSs l)[((i : Nat) : Int).toNat]? = some (cS l[i]) := by
 unfold cSs
 rw [y0w, y0i, y07 h]
 rfl
theorem zrh {l : List Sp} {i : Nat} (h : i < l.length) : (cPs l)[((i : Nat) : Int).toNat]? = some (cP l[i]) := by
 unfold cPs
 rw [y0w, y0i, y07 h]
 rfl
def zi8 (a : Int) : Bool := decide (a ≥ 0) && decide (a < 6)
-- pneumatic/stroke.known
def ic148 : IC := .seq (.region [oM 2 (.mov (.c (.bool false)))] none)
 (.seq (.region [oT 3 0,
  oM 4 (.bin .geq (.t 3) (.c (.int .i64 0))),
  oT 5 4,
  ⟨(some 6), .mov (.t 0), some (5, true)⟩,
  ⟨(some 7), .bin .lss (.t 6) (.c (.int .i64 6)), some (5, true)⟩,
  oM 8 (.pick (.t 5) (.t 7) (.c (.bool false))),
  oT 2 8] none)
 (.ret))
theorem fn148 : env0.fn 148 = some ⟨9, ic148, [.t 2]⟩ := by kernel_rfl
theorem known109 (a : Int) : PF Try.prog 148 [.int .i64 a] (.bool (zi8 a)) := by
 refine zb1 env0_ok fn148 [(0, .int .i64 a)] (by show 1 ≤ 9; decide) rfl fun w0 N0 => ?_
 unfold ic148 zi8
 refine zsr rfl (za1 rfl (onr rfl (za1 rfl ?_)))
 refine zaq rfl rfl rfl (fun h => ?_) fun h => ?_
 ·rw [h]
  refine za1 rfl (zbc rfl (za1 rfl (zbc rfl ?_)))
  refine zaq rfl rfl rfl (fun h2 => ?_) fun h2 => ?_
  all_goals
   rw [h2]
   refine zat rfl rfl (za1 rfl (onu (zak ?_)))
   exact zaf ⟨.inr rfl, _, rfl, rfl⟩
 ·rw [h]
  refine za1 rfl (zbz rfl rfl (zbz rfl rfl (zal rfl rfl (za1 rfl (onu (zak ?_))))))
  exact zaf ⟨.inr rfl, _, rfl, rfl⟩
def zkf : Int → List Sk → Int
 | _, [] => 0
 | z, s :: r => if zi8 s.a = false then 2 else if (s.a == z) = true then 7 else if decide (s.a < z) = true then 9 else zkf s.a r
def spC (p : Sp) : Int := if p.l.length = 0 then 13 else if p.l.length > 6 then 5 else if zkf (-1) p.l ≠ 0 then zkf (-1) p.l else if p.w < 0 ∨ p.w > 1000000 then 2 else 0
def b149_1 : IC := .seq (.region [oM 20 (.bin .lss (.t 19) (.t 18))] none)
 (.seq (.cond (.t 20) (.skip)
 (.exit 1))
 (.seq (.block 2 (.seq (.region [oM 21 (.idxs 2 (.t 17) (.t 19)),
  oL 22 2 21,
  oM 6 (.alloc [.int .i64 0, .bool false]),
  ⟨none, .store 2 (.t 6) (.t 22), none⟩] none)
 (.seq (.block 3 (.seq (.region [oF 24 0 6,
  oN 25 24,
  oM 26 (.call (.c (.fn 148 [] [])) [(.t 25)]),
  oM 27 (.un .not (.t 26)),
  oT 23 27] none)
 (.cond (.t 23) (.seq (.region [oM 2 (.mov (.c (.int .i64 2)))] none)
 (.ret))
 (.seq (.region [oF 29 0 6,
  oN 30 29,
  oT 31 4,
  oM 32 (.bin .eql (.t 30) (.t 31)),
  oT 28 32] none)
 (.cond (.t 28) (.seq (.region [oM 2 (.mov (.c (.int .i64 7)))] none)
 (.ret))
 (.seq (.region [oF 34 0 6,
  oN 35 34,
  oT 36 4,
  oM 37 (.bin .lss (.t 35) (.t 36)),
  oT 33 37] none)
 (.cond (.t 33) (.seq (.region [oM 2 (.mov (.c (.int .i64 9)))] none)
 (.ret))
 (.skip))))))))
 (.region [oF 38 0 6,
  oN 39 38,
  oT 4 39] none))))
 (.region [oM 40 (.bin .add (.t 19) (.c (.int .i64 1))),
  oT 19 40] none)))
-- pneumatic/stroke.CheckStep
def ic149 : IC := .seq (.region [oM 1 (.box (.t 0)),
  oM 2 (.mov (.c (.int .i64 0)))] none)
 (.seq (.seq (.region [oF 7 0 1,
  oN 8 7,
  oM 9 (.len false (.t 8)),
  oT 3 9] none)
 (.block 0 (.seq (.region [oT 11 3,
  oM 12 (.bin .eql (.t 11) (.c (.int .i64 0))),
  oT 10 12] none)
 (.cond (.t 10) (.seq (.region [oM 2 (.mov (.c (.int .i64 13)))] none)
 (.ret))
 (.seq (.region [oT 14 3,
  oM 15 (.bin .gtr (.t 14) (.c (.int .i64 6))),
  oT 13 15] none)
 (.cond (.t 13) (.seq (.region [oM 2 (.mov (.c (.int .i64 5)))] none)
 (.ret))
 (.skip)))))))
 (.seq (.region [oM 4 (.mov (.c (.int .i64 (-1))))] none)
 (.seq (.seq (.region [oF 16 0 1,
  oN 17 16,
  oM 18 (.len false (.t 17)),
  oM 19 (.mov (.c (.int .i64 0)))] none)
 (.block 1 (.loop b149_1)))
 (.seq (.seq (.region [oF 41 1 1,
  oN 42 41,
  oM 43 (.bin .lss (.t 42) (.c (.int .i64 0))),
  oT 44 43,
  ⟨(some 45), .faddr 1 (.t 1), some (44, false)⟩,
  ⟨(some 46), .load none (.t 45), some (44, false)⟩,
  ⟨(some 47), .bin .gtr (.t 46) (.c (.int .i64 1000000)), some (44, false)⟩,
  oM 48 (.pick (.t 44) (.c (.bool true)) (.t 47))] none)
 (.cond (.t 48) (.seq (.region [oM 2 (.mov (.c (.int .i64 2)))] none)
 (.ret))
 (.skip)))
 (.seq (.region [oM 2 (.mov (.c (.int .i64 0)))] none)
 (.ret))))))
theorem fn149 : env0.fn 149 = some ⟨49, ic149, [.t 2]⟩ := by kernel_rfl
set_option maxHeartbeats 2000000 in
theorem step96 (p : Sp) : PF Try.prog 149 [.agg (cP p)] (.int .i64 (spC p)) := by
 obtain ⟨l, w⟩ := p
 have hcl : (cSs l).length = l.length := zc3 l
 refine zb1 env0_ok fn149 [(0, .agg [.vs (cSs l), .int .i64 w])] (by show 1 ≤ 49; decide) rfl fun w0 N0 => ?_
 unfold ic149
 refine zsr rfl (zc1 rfl rfl (za1 rfl (onu (za8 (zsr rfl (za9 rfl (za7 rfl rfl (zbd rfl rfl (za1 rfl (zai ?_))))))))))
 refine zaa (zac (zsr rfl (za1 rfl ?_)))
 refine zaq rfl rfl rfl (fun h => ?_) fun h => ?_
 ·have h : (((cSs l).length : Nat) : Int) = 0 := by simpa using h
  rw [show spC ⟨l, w⟩ = 13 from if_pos (by show l.length = 0; omega)]
  refine za1 rfl (onu (zb4 rfl (zsr rfl (za1 rfl (onu (zak (zag (za4 ?_))))))))
  exact zaf ⟨.inr rfl, _, rfl, rfl⟩
 have h : ¬ (((cSs l).length : Nat) : Int) = 0 := by simpa using h
 refine za1 rfl (onu (zb8 rfl (zsr rfl (za1 rfl ?_))))
 refine zaq rfl rfl rfl (fun h2 => ?_) fun h2 => ?_
 ·have h2 : (((cSs l).length : Nat) : Int) > 6 := of_decide_eq_true h2
  rw [show spC ⟨l, w⟩ = 5 from (if_neg (by show ¬ l.length = 0; omega)).trans (if_pos (by show l.length > 6; omega))]
  refine za1 rfl (onu (zb4 rfl (zsr rfl (za1 rfl (onu (zak (zag (za4 ?_))))))))
  exact zaf ⟨.inr rfl, _, rfl, rfl⟩
 have h2 : ¬ (((cSs l).length : Nat) : Int) > 6 := of_decide_eq_false h2
 have hst : spC ⟨l, w⟩ = if zkf (-1) l ≠ 0 then zkf (-1) l else if w < 0 ∨ w > 1000000 then 2 else 0 := (if_neg (by show ¬ l.length = 0; omega)).trans (if_neg (by show ¬ l.length > 6; omega))
 rw [hst]
 refine za1 rfl (onu (zb8 rfl (zab (zb7 (zaa (zsr rfl (za1 rfl (onu (za8 (za8 ?_))))))))))
 refine za5 rfl (za9 rfl (za7 rfl rfl (zbd rfl rfl (za1 rfl (onu (zac ?_))))))
 refine zbu (fun mm S => ∃ i z, mm = l.length - i ∧ i ≤ l.length ∧ zkf (-1) l = zkf z (l.drop i) ∧
   S = st 49 [(1, .vptr [.vs (cSs l), .int .i64 w]), (4, .int .i64 z), (17, .vs (cSs l)), (18, .int .i64 (cSs l).length), (19, .int .i64 (i : Nat))] [] 0 1) l.length
  (zcp [] [(0, 0, [.vs (cSs l), .int .i64 w])] rfl rfl rfl (.cons rfl rfl .nil) .nil (l' := [(1, .vptr [.vs (cSs l), .int .i64 w]), (4, .int .i64 (-1)), (17, .vs (cSs l)), (18, .int .i64 (cSs l).length), (19, .int .i64 ((0 : Nat) : Int))]) (.cons rfl (.fptr rfl rfl) (.cons rfl (.same rfl) (.cons rfl (.same rfl) (.cons rfl (.same rfl) (.cons rfl (.same rfl) .nil)))))) ⟨0, -1, rfl, y0t _, rfl, rfl⟩ ?_
 rintro mm S ⟨i, z, rfl, hi, hall, rfl⟩
 unfold b149_1
 refine zsr rfl ?_
 refine zaq rfl rfl rfl (fun h3 => ?_) fun h3 => ?_
 ·have hlt : i < l.length := by
   have : ((i : Nat) : Int) < ((cSs l).length : Nat) := of_decide_eq_true h3
   rw [hcl] at this
   omega
  have hd : l.drop i = l[i] :: l.drop (i + 1) := y0g hlt
  rw [hd, zkf] at hall
  have hg := zdo hlt
  generalize l[i] = s at hall hg
  obtain ⟨a, o⟩ := s
  have h109 := known109 a
  have hg : (cSs l)[((i : Nat) : Int).toNat]? = some [.int .i64 a, .bool o] := hg
  have hall : zkf (-1) l = if zi8 a = false then 2 else if (a == z) = true then 7 else if decide (a < z) = true then 9 else zkf a (l.drop (i + 1)) := hall
  refine onu (za8 (zb4 rfl (zab (zaa (za8 (zac (zsr rfl (zbh rfl rfl (by omega) (by assumption) rfl (zam rfl rfl rfl rfl (zau (zad rfl rfl rfl rfl rfl rfl rfl ?_)))))))))))
  refine onu (za8 (zac (zsr rfl (za9 rfl (za7 rfl rfl ?_)))))
  refine zap rfl rfl h109 noC ?_
  cases hk : zi8 a with
  | false =>
   rw [hk, if_pos rfl] at hall
   rw [hall]
   refine zfr rfl rfl (za1 rfl (onu (zb4 rfl (zsr rfl (za1 rfl (onu (zak (zag (za4 (zag ?_))))))))))
   refine za4 ?_
   refine zbb ?_
   refine zag (za4 ?_)
   exact zaf ⟨.inr rfl, _, rfl, rfl⟩
  | true =>
   rw [hk, if_neg (by decide)] at hall
   refine zfr rfl rfl (za1 rfl (onu (zb8 rfl (zsr rfl (za9 rfl (za7 rfl rfl (za1 rfl ?_)))))))
   refine zaq rfl rfl rfl (fun h4 => ?_) fun h4 => ?_
   ·rw [if_pos h4] at hall
    rw [hall]
    refine za1 rfl (onu (zb4 rfl (zsr rfl (za1 rfl (onu (zak (zag (za4 (zag (za4 ?_))))))))))
    refine zbb ?_
    refine zag (za4 ?_)
    exact zaf ⟨.inr rfl, _, rfl, rfl⟩
   rw [if_neg (by rw [h4]; decide)] at hall
   refine za1 rfl (onu (zb8 rfl (zsr rfl (za9 rfl (za7 rfl rfl (za1 rfl ?_))))))
   refine zaq rfl rfl rfl (fun h5 => ?_) fun h5 => ?_
   ·rw [if_pos h5] at hall
    rw [hall]
    refine za1 rfl (onu (zb4 rfl (zsr rfl (za1 rfl (onu (zak (zag (za4 (zag (za4 ?_))))))))))
    refine zbb ?_
    refine zag (za4 ?_)
    exact zaf ⟨.inr rfl, _, rfl, rfl⟩
   rw [if_neg (by rw [h5]; decide)] at hall
   refine za1 rfl (onu (zb8 rfl (zab (zb7 (zaa (za5 rfl (za9 rfl (za7 rfl rfl (za1 rfl (zai (zb7 (zaa ?_))))))))))))
   refine za5 rfl (zb6 (op := .add) rfl rfl rfl (za1 rfl (zai ?_)))
   rw [zas i (by omega)]
   exact zav (show l.length - (i + 1) < l.length - i by omega) (zcp [] [] rfl rfl rfl .nil .nil (.cons rfl (.same rfl) (.cons rfl (.same rfl) (.cons rfl (.same rfl) (.cons rfl (.same rfl) (.cons rfl (.same rfl) .nil)))))) ⟨i + 1, a, rfl, hlt, hall, rfl⟩
 ·have hi2 : i = l.length := by
   have : ¬ ((i : Nat) : Int) < ((cSs l).length : Nat) := of_decide_eq_false h3
   rw [hcl] at this
   omega
  rw [hi2, y0s, zkf] at hall
  rw [hall, if_neg (by decide)]
  refine onu (za8 (zb8 rfl (zbm (zao ?_))))
  refine zcn ?_
  refine zbl (zaa (za8 (zsr rfl (zaw rfl rfl rfl (za7 rfl rfl ?_)))))
  refine zaq rfl rfl rfl (fun h6 => ?_) fun h6 => ?_
  ·have h6 : w < 0 := of_decide_eq_true h6
   rw [if_pos (.inl h6)]
   refine za1 rfl (zbz rfl rfl (zbz rfl rfl (zbz rfl rfl (zat rfl rfl (onu (zb4 rfl (zsr rfl (za1 rfl (onu (zak ?_))))))))))
   refine za4 ?_
   exact zaf ⟨.inr rfl, _, rfl, rfl⟩
  have h6 : ¬ w < 0 := of_decide_eq_false h6
  refine za1 rfl (zbc rfl (zaw rfl rfl rfl (zbc rfl (za7 rfl rfl (zbc rfl ?_)))))
  refine zaq rfl rfl rfl (fun h7 => ?_) fun h7 => ?_
  ·have h7 : w > 1000000 := of_decide_eq_true h7
   rw [if_pos (.inr h7)]
   refine zal rfl rfl (onu (zb4 rfl (zsr rfl (za1 rfl (onu (zak (za4 ?_)))))))
   exact zaf ⟨.inr rfl, _, rfl, rfl⟩
  have h7 : ¬ w > 1000000 := of_decide_eq_false h7
  rw [if_neg (by omega)]
  refine zal rfl rfl (onu (zb8 rfl (zab (zaa (zsr rfl (za1 rfl (onu (zak ?_))))))))
  exact zaf ⟨.inr rfl, _, rfl, rfl⟩
def zix (a : Int) : List Sk → Int
 | [] => 0
 | s :: r => if (s.a == a) = true then (if s.o = true then 1 else -1) else zix a r
def ztz (a : Int) : List Sp → Bool
 | [] => false
 | p :: r => if (zix a p.l != 0) = true then true else ztz a r
def zej (x : List Bool) (l : List Sk) : Bool := l.all fun s => !(x.getD s.a.toNat false == s.o)
def aft (x : List Bool) (l : List Sk) : List Bool := l.foldl (fun x s => x.set s.a.toNat s.o) x
theorem zd6 (l : List Sk) : ∀ x : List Bool, (aft x l).length = x.length := by
 induction l with
 | nil => exact fun _ => rfl
 | cons s l ih =>
  intro x
  show (aft (x.set s.a.toNat s.o) l).length = _
  rw [ih, y1c]
theorem aft_take {x : List Bool} {l : List Sk} {i : Nat} (h : i < l.length) : aft x (l.take (i + 1)) = (aft x (l.take i)).set l[i].a.toNat l[i].o := by
 unfold aft
 rw [y2e, y07 h, List.foldl_append]
 rfl
def b121_0 : IC := .seq (.region [oM 11 (.bin .lss (.t 10) (.t 9))] none)
 (.seq (.cond (.t 11) (.skip)
 (.exit 0))
 (.seq (.block 1 (.seq (.region [oM 12 (.idxs 2 (.t 8) (.t 10)),
  oL 13 2 12,
  oM 6 (.alloc [.int .i64 0, .bool false]),
  ⟨none, .store 2 (.t 6) (.t 13), none⟩] none)
 (.region [oF 14 0 6,
  oN 15 14,
  oF 16 1 6,
  oN 17 16,
  oM 18 (.idxarr 6 1 (.t 2) (.t 15)),
  ⟨none, .store 1 (.t 18) (.t 17), none⟩] none)))
 (.region [oM 19 (.bin .add (.t 10) (.c (.int .i64 1))),
  oT 10 19] none)))
-- (pneumatic/sequence.ends).behind
def ic121 : IC := .seq (.region [oM 2 (.box (.t 0)),
  oM 3 (.box (.t 1)),
  oM 4 (.alloc [.bool false, .bool false, .bool false, .bool false, .bool false, .bool false])] none)
 (.seq (.seq (.region [oF 7 0 3,
  oN 8 7,
  oM 9 (.len false (.t 8)),
  oM 10 (.mov (.c (.int .i64 0)))] none)
 (.block 0 (.loop b121_0)))
 (.seq (.region [oL 20 6 2,
  ⟨none, .store 6 (.t 4) (.t 20), none⟩] none)
 (.ret)))
theorem fn121 : env0.fn 121 = some ⟨21, ic121, [.cell 4 (some 6)]⟩ := by kernel_rfl
set_option maxHeartbeats 1000000 in
theorem zt4 (p : Sp) (x : List Bool) (hl : p.l.length ≤ 1000000) (hx : x.length = 6) (ha : ∀ s ∈ p.l, 0 ≤ s.a ∧ s.a < 6) : PF Try.prog 121 [.agg (x.map AV.bool), .agg (cP p)] (.agg ((aft x p.l).map AV.bool)) := by
 obtain ⟨l, w⟩ := p
 have hl : l.length ≤ 1000000 := hl
 have ha : ∀ s ∈ l, 0 ≤ s.a ∧ s.a < 6 := ha
 have hcl : (cSs l).length = l.length := zc3 l
 refine zb1 env0_ok fn121 [(0, .agg (x.map AV.bool)), (1, .agg [.vs (cSs l), .int .i64 w])] (by show 2 ≤ 21; decide) rfl fun w0 N0 => ?_
 unfold ic121
 refine zsr rfl (zc1 rfl rfl (zc1 rfl rfl (zau (onu (za8 (zsr rfl (za9 rfl (za7 rfl rfl (zbd rfl rfl (za1 rfl ?_))))))))))
 refine onu (zac ?_)
 refine zbu (fun mm S => ∃ i, mm = l.length - i ∧ i ≤ l.length ∧
   S = st 21 [(2, .mptr 0 0 0), (4, .mptr 1 0 0), (8, .vs (cSs l)), (9, .int .i64 (cSs l).length), (10, .int .i64 (i : Nat))] [(0, 0, .cells ((aft x (l.take i)).map AV.bool)), (1, 0, .cells [.bool false, .bool false, .bool false, .bool false, .bool false, .bool false])] 2 1) l.length
  (zcp [(some (0, 0), x.map AV.bool), (some (2, 2), [.bool false, .bool false, .bool false, .bool false, .bool false, .bool false])] [] rfl rfl rfl .nil (.cons rfl (.keep (zbx _)) (.cons rfl (.keep rfl) .nil)) (l' := [(2, .mptr 0 0 0), (4, .mptr 1 0 0), (8, .vs (cSs l)), (9, .int .i64 (cSs l).length), (10, .int .i64 ((0 : Nat) : Int))]) (.cons rfl (.mptr rfl) (.cons rfl (.mptr rfl) (.cons rfl (.same rfl) (.cons rfl (.same rfl) (.cons rfl (.same rfl) .nil)))))) ⟨0, rfl, y0t _, rfl⟩ ?_
 rintro mm S ⟨i, rfl, hi, rfl⟩
 unfold b121_0
 refine zsr rfl ?_
 refine zaq rfl rfl rfl (fun h3 => ?_) fun h3 => ?_
 ·have hlt : i < l.length := by
   have : ((i : Nat) : Int) < ((cSs l).length : Nat) := of_decide_eq_true h3
   rw [hcl] at this
   omega
  have hg := zdo hlt
  have htk := aft_take (x := x) hlt
  have hal := zd6 (l.take i) x
  obtain ⟨ha0, ha1⟩ := ha _ (y0y hlt)
  generalize l[i] = s at hg htk ha0 ha1
  obtain ⟨a, o⟩ := s
  have ha0 : 0 ≤ a := ha0
  have ha1 : a < 6 := ha1
  have hg : (cSs l)[((i : Nat) : Int).toNat]? = some [.int .i64 a, .bool o] := hg
  have htk : aft x (l.take (i + 1)) = (aft x (l.take i)).set a.toNat o := htk
  generalize aft x (l.take i) = X at hal htk
  have hset : (X.map AV.bool).set (0 + a.toNat * 1) (.bool o) = (X.set a.toNat o).map AV.bool := by rw [List.map_set, Nat.mul_one, y1r]
  refine onu (za8 (zb4 rfl (zab (zaa (za8 (zac (zsr rfl (zbh rfl rfl (by omega) (by assumption) rfl (zam rfl rfl rfl rfl (zau (zad rfl rfl rfl rfl rfl rfl rfl ?_)))))))))))
  refine onR rfl (za9 rfl (za7 rfl rfl (za9 rfl (za7 rfl rfl (zev rfl rfl (decide_eq_true ⟨by omega, by omega⟩) ?_)))))
  refine ze0 rfl rfl rfl rfl (by rw [y09]; omega) rfl ?_
  rw [hset]
  refine zai (zb7 (zaa (za5 rfl (zb6 (op := .add) rfl rfl rfl (za1 rfl (zai ?_))))))
  rw [zas i (by omega)]
  exact zav (show l.length - (i + 1) < l.length - i by omega) (zcp [(some (0, 0), (X.set a.toNat o).map AV.bool), (some (1, 0), [.bool false, .bool false, .bool false, .bool false, .bool false, .bool false])] [] rfl rfl rfl .nil (.cons rfl (.keep (zbx _)) (.cons rfl (.keep rfl) .nil)) (.cons rfl (.mptr rfl) (.cons rfl (.mptr rfl) (.cons rfl (.same rfl) (.cons rfl (.same rfl) (.cons rfl (.same rfl) .nil)))))) ⟨i + 1, rfl, hlt, by rw [htk]; rfl⟩
 ·have hi2 : i = l.length := by
   have : ¬ ((i : Nat) : Int) < ((cSs l).length : Nat) := of_decide_eq_false h3
   rw [hcl] at this
   omega
  subst hi2
  rw [y2a]
  have hal := zd6 l x
  generalize aft x l = X at hal
  rw [hx] at hal
  match X, hal with
  | [b0, b1, b2, b3, b4, b5], _ =>
   refine onu (za8 (zb8 rfl (zbm (zao ?_))))
   refine zcn ?_
   refine zbl (zaa (zsr rfl (zam rfl rfl rfl rfl (zad rfl rfl rfl rfl rfl rfl rfl (onu (zak ?_))))))
   exact zaf ⟨.inr rfl, _, rfl, rfl⟩
theorem zna : ∀ (l : List Sk) (z : Int), zkf z l = 0 → ∀ s ∈ l, 0 ≤ s.a ∧ s.a < 6
 | [], _, _, s, hs => by cases hs
 | t :: r, z, h, s, hs => by
  rw [zkf] at h
  split at h
  ·exact absurd h (by decide)
  rename_i hk
  split at h
  ·exact absurd h (by decide)
  split at h
  ·exact absurd h (by decide)
  rcases y0m.1 hs with rfl | hs
  ·have hk : zi8 s.a = true := by simpa using hk
   unfold zi8 at hk
   rw [y0h, decide_eq_true_eq, decide_eq_true_eq] at hk
   exact hk
  ·exact zna r _ h s hs
theorem zqu {p : Sp} (h : spC p = 0) : p.l.length ≤ 6 ∧ ∀ s ∈ p.l, 0 ≤ s.a ∧ s.a < 6 := by
 unfold spC at h
 split at h
 ·exact absurd h (by decide)
 split at h
 ·exact absurd h (by decide)
 split at h
 ·rename_i h1; exact absurd h h1
 ·rename_i h1
  exact ⟨by omega, zna _ _ (by simpa using h1)⟩
def zj4 (n : Int) (l : List Sk) : Bool := l.any fun s => decide (s.a ≥ n)
def fitC (n : Int) (p : Sp) (x : List Bool) : Int := if spC p ≠ 0 then spC p else if zj4 n p.l = true then 6 else if zej x p.l = true then 0 else 14
theorem zha (x : List Bool) : hasM (.vptr (x.map AV.bool)) = false := rfl
def b120_0 : IC := .seq (.region [oM 21 (.bin .lss (.t 20) (.t 19))] none)
 (.seq (.cond (.t 21) (.skip)
 (.exit 0))
 (.seq (.block 1 (.seq (.region [oM 22 (.idxs 2 (.t 18) (.t 20)),
  oL 23 2 22,
  oM 9 (.alloc [.int .i64 0, .bool false]),
  ⟨none, .store 2 (.t 9) (.t 23), none⟩] none)
 (.seq (.region [oF 24 0 9,
  oN 25 24,
  oF 26 0 3,
  oN 27 26,
  oM 28 (.bin .geq (.t 25) (.t 27))] none)
 (.cond (.t 28) (.seq (.region [oM 6 (.mov (.c (.int .i64 6)))] none)
 (.ret))
 (.skip)))))
 (.region [oM 29 (.bin .add (.t 20) (.c (.int .i64 1))),
  oT 20 29] none)))
def b120_2 : IC := .seq (.region [oM 34 (.bin .lss (.t 33) (.t 32))] none)
 (.seq (.cond (.t 34) (.skip)
 (.exit 2))
 (.seq (.block 3 (.seq (.region [oM 35 (.idxs 2 (.t 31) (.t 33)),
  oL 36 2 35,
  oM 11 (.alloc [.int .i64 0, .bool false]),
  ⟨none, .store 2 (.t 11) (.t 36), none⟩] none)
 (.seq (.region [oF 37 0 11,
  oN 38 37,
  oM 39 (.idxarr 6 1 (.t 5) (.t 38)),
  oN 40 39,
  oF 41 1 11,
  oN 42 41,
  oM 43 (.eqb false (.t 40) (.t 42))] (some [[], [0], [1], [2], [], [4], [3, 5]]))
 (.cond (.t 43) (.seq (.region [oM 6 (.mov (.c (.int .i64 14)))] none)
 (.ret))
 (.skip)))))
 (.region [oM 44 (.bin .add (.t 33) (.c (.int .i64 1))),
  oT 33 44] none)))
-- pneumatic/sequence.fits
def ic120 : IC := .seq (.region [oM 3 (.box (.t 0)),
  oM 4 (.box (.t 1)),
  oM 5 (.box (.t 2)),
  oM 6 (.mov (.c (.int .i64 0)))] none)
 (.seq (.seq (.region [oL 12 2 4,
  oM 13 (.call (.c (.fn 149 [] [])) [(.t 12)]),
  oT 7 13] none)
 (.seq (.region [oT 14 7,
  oM 15 (.bin .neq (.t 14) (.c (.int .i64 0)))] none)
 (.cond (.t 15) (.seq (.region [oT 16 7,
  oT 6 16] none)
 (.ret))
 (.skip))))
 (.seq (.seq (.region [oF 17 0 4,
  oN 18 17,
  oM 19 (.len false (.t 18)),
  oM 20 (.mov (.c (.int .i64 0)))] none)
 (.block 0 (.loop b120_0)))
 (.seq (.seq (.region [oF 30 0 4,
  oN 31 30,
  oM 32 (.len false (.t 31)),
  oM 33 (.mov (.c (.int .i64 0)))] none)
 (.block 2 (.loop b120_2)))
 (.seq (.region [oM 6 (.mov (.c (.int .i64 0)))] none)
 (.ret)))))
theorem fn120 : env0.fn 120 = some ⟨45, ic120, [.t 6]⟩ := by kernel_rfl
set_option maxHeartbeats 4000000 in
theorem fits76 (n : Int) (ls : List Sp) (p : Sp) (x : List Bool) (hx : x.length = 6) : PF Try.prog 120 [.agg (cQ n ls), .agg (cP p), .agg (x.map AV.bool)] (.int .i64 (fitC n p x)) := by
 obtain ⟨l, w⟩ := p
 have h96 := step96 ⟨l, w⟩
 have hcl : (cSs l).length = l.length := zc3 l
 have h96 : PF Try.prog 149 [.agg [.vs (cSs l), .int .i64 w]] (.int .i64 (spC ⟨l, w⟩)) := h96
 refine zb1 env0_ok fn120 [(0, .agg [.int .i64 n, .vs (cPs ls)]), (1, .agg [.vs (cSs l), .int .i64 w]), (2, .agg (x.map AV.bool))] (by show 3 ≤ 45; decide) rfl fun w0 N0 => ?_
 unfold ic120
 refine zsr rfl (zc1 rfl rfl (zc1 rfl rfl (zc1 rfl rfl (za1 rfl (onu (za8 (zsr rfl (zam rfl rfl rfl rfl ?_))))))))
 refine zap rfl rfl h96 noC ?_
 refine za1 rfl (onr rfl (za1 rfl ?_))
 refine zaq rfl rfl rfl (fun h => ?_) fun h => ?_
 ·have h : spC ⟨l, w⟩ ≠ 0 := bne_iff_ne.1 h
  rw [show fitC n ⟨l, w⟩ x = spC ⟨l, w⟩ from if_pos h]
  refine onu (zb4 rfl (zsr rfl (za1 rfl (za1 rfl (onu (zak (za4 ?_)))))))
  exact zaf ⟨.inr rfl, _, rfl, rfl⟩
 have h : spC ⟨l, w⟩ = 0 := by simpa using h
 obtain ⟨hl, ha⟩ := zqu h
 have hl : l.length ≤ 6 := hl
 have ha : ∀ s ∈ l, 0 ≤ s.a ∧ s.a < 6 := ha
 have hf : fitC n ⟨l, w⟩ x = if zj4 n l = true then 6 else if zej x l = true then 0 else 14 := if_neg (by rw [h]; decide)
 rw [hf]
 refine onu (zb8 rfl (zab (zaa (za8 (zsr rfl (za9 rfl (za7 rfl rfl (zbd rfl rfl (za1 rfl (onu ?_))))))))))
 refine zac ?_
 refine zbu (fun mm S => ∃ i, mm = l.length - i ∧ i ≤ l.length ∧ zj4 n l = zj4 n (l.drop i) ∧
   S = st 45 [(3, .vptr [.int .i64 n, .vs (cPs ls)]), (4, .vptr [.vs (cSs l), .int .i64 w]), (5, .vptr (x.map AV.bool)), (18, .vs (cSs l)), (19, .int .i64 (cSs l).length), (20, .int .i64 (i : Nat))] [] 0 1) l.length
  (zcp [] [(0, 0, [.int .i64 n, .vs (cPs ls)]), (1, 1, [.vs (cSs l), .int .i64 w]), (2, 2, x.map AV.bool)] rfl rfl rfl (.cons rfl rfl (.cons rfl rfl (.cons rfl (zbx _) .nil))) .nil (l' := [(3, .vptr [.int .i64 n, .vs (cPs ls)]), (4, .vptr [.vs (cSs l), .int .i64 w]), (5, .vptr (x.map AV.bool)), (18, .vs (cSs l)), (19, .int .i64 (cSs l).length), (20, .int .i64 ((0 : Nat) : Int))]) (.cons rfl (.fptr rfl rfl) (.cons rfl (.fptr rfl rfl) (.cons rfl (.fptr rfl rfl) (.cons rfl (.same rfl) (.cons rfl (.same rfl) (.cons rfl (.same rfl) .nil))))))) ⟨0, rfl, y0t _, rfl, rfl⟩ ?_
 rintro mm S ⟨i, rfl, hi, hall, rfl⟩
 unfold b120_0
 refine zsr rfl ?_
 refine zaq rfl rfl rfl (fun h3 => ?_) fun h3 => ?_
 ·have hlt : i < l.length := by
   have : ((i : Nat) : Int) < ((cSs l).length : Nat) := of_decide_eq_true h3
   rw [hcl] at this
   omega
  have hd : l.drop i = l[i] :: l.drop (i + 1) := y0g hlt
  rw [hd] at hall
  have hg := zdo hlt
  generalize l[i] = s at hall hg
  obtain ⟨a, o⟩ := s
  have hg : (cSs l)[((i : Nat) : Int).toNat]? = some [.int .i64 a, .bool o] := hg
  have hall : zj4 n l = (decide (a ≥ n) || zj4 n (l.drop (i + 1))) := hall
  refine onu (za8 (zb4 rfl (zab (zaa (za8 (zac (zsr rfl (zbh rfl rfl (by omega) (by assumption) rfl (zam rfl rfl rfl rfl (zau (zad rfl rfl rfl rfl rfl rfl rfl ?_)))))))))))
  refine onr rfl (za9 rfl (za7 rfl rfl (zaw rfl rfl rfl (za7 rfl rfl ?_))))
  refine zaq rfl rfl rfl (fun h4 => ?_) fun h4 => ?_
  ·rw [h4, Bool.true_or] at hall
   rw [hall, if_pos rfl]
   refine onu (zb4 rfl (zsr rfl (za1 rfl (onu (zak (zag (za4 ?_)))))))
   refine zbb ?_
   refine zag (za4 ?_)
   exact zaf ⟨.inr rfl, _, rfl, rfl⟩
  ·rw [h4, Bool.false_or] at hall
   refine onu (zb8 rfl (zab (zb7 (zaa (za5 rfl (zb6 (op := .add) rfl rfl rfl (za1 rfl (zai ?_))))))))
   rw [zas i (by omega)]
   exact zav (show l.length - (i + 1) < l.length - i by omega) (zcp [] [] rfl rfl rfl .nil .nil (.cons rfl (.same rfl) (.cons rfl (.same rfl) (.cons rfl (.same (zha x)) (.cons rfl (.same rfl) (.cons rfl (.same rfl) (.cons rfl (.same rfl) .nil))))))) ⟨i + 1, rfl, hlt, hall, rfl⟩
 have hi2 : i = l.length := by
  have : ¬ ((i : Nat) : Int) < ((cSs l).length : Nat) := of_decide_eq_false h3
  rw [hcl] at this
  omega
 rw [hi2, y0s] at hall
 have hall : zj4 n l = false := hall
 rw [hall, if_neg (by decide)]
 refine onu (za8 (zb8 rfl (zbm (zao ?_))))
 refine zcn ?_
 refine zbl (zaa (za8 (zsr rfl (zaw rfl rfl rfl (za7 rfl rfl (zbd rfl rfl (za1 rfl (onu (zac ?_)))))))))
 clear h3 hi hi2 hall hf
 refine zbu (fun mm S => ∃ i, mm = l.length - i ∧ i ≤ l.length ∧ zej x l = zej x (l.drop i) ∧
   S = st 45 [(5, .vptr (x.map AV.bool)), (31, .vs (cSs l)), (32, .int .i64 (cSs l).length), (33, .int .i64 (i : Nat))] [] 0 1) l.length
  (zcp [] [] rfl rfl rfl .nil .nil (l' := [(5, .vptr (x.map AV.bool)), (31, .vs (cSs l)), (32, .int .i64 (cSs l).length), (33, .int .i64 ((0 : Nat) : Int))]) (.cons rfl (.same (zha x)) (.cons rfl (.same rfl) (.cons rfl (.same rfl) (.cons rfl (.same rfl) .nil))))) ⟨0, rfl, y0t _, rfl, rfl⟩ ?_
 rintro mm S ⟨i, rfl, hi, hall, rfl⟩
 unfold b120_2
 refine zsr rfl ?_
 refine zaq rfl rfl rfl (fun h3 => ?_) fun h3 => ?_
 ·have hlt : i < l.length := by
   have : ((i : Nat) : Int) < ((cSs l).length : Nat) := of_decide_eq_true h3
   rw [hcl] at this
   omega
  have hd : l.drop i = l[i] :: l.drop (i + 1) := y0g hlt
  rw [hd] at hall
  have hg := zdo hlt
  obtain ⟨ha0, ha1⟩ := ha _ (y0y hlt)
  generalize l[i] = s at hall hg ha0 ha1
  obtain ⟨a, o⟩ := s
  have ha0 : 0 ≤ a := ha0
  have ha1 : a < 6 := ha1
  have hg : (cSs l)[((i : Nat) : Int).toNat]? = some [.int .i64 a, .bool o] := hg
  have hall : zej x l = (!(x.getD a.toNat false == o) && zej x (l.drop (i + 1))) := hall
  have hxl : (x.map AV.bool).length = 6 := by rw [y09]; exact hx
  have hgx : (x.map AV.bool).drop (a.toNat * 1) = .bool (x.getD a.toNat false) :: (x.map AV.bool).drop (a.toNat * 1 + 1) := by
   rw [Nat.mul_one, y0g (by omega), List.getElem_map, y06, y07 (by omega)]
   rfl
  generalize x.getD a.toNat false = b at hgx hall
  refine onu (za8 (zb4 rfl (zab (zaa (za8 (zac (zsr rfl (zbh rfl rfl (by omega) (by assumption) rfl (zam rfl rfl rfl rfl (zau (zad rfl rfl rfl rfl rfl rfl rfl ?_)))))))))))
  refine onu (za8 (ziy env0_ok rfl rfl rfl (za9 rfl (za7 rfl rfl ?_))))
  refine zzg rfl rfl (decide_eq_true ⟨ha0, by omega, by omega⟩) hgx ?_
  cases b <;> cases o
  all_goals
   repeat (first | refine za8 ?_ | refine za5 rfl ?_ | refine zai ?_ | refine zaa ?_ | refine zb7 ?_ | refine zab ?_ | refine zb4 rfl ?_ | refine zb8 rfl ?_ | refine zak ?_ | refine za4 ?_ | refine zag ?_ | refine za1 rfl ?_ | refine za7 rfl rfl ?_ | refine za9 rfl ?_ | refine zb6 (op := .add) rfl rfl rfl ?_ | refine zzf rfl rfl rfl ?_ | refine zze rfl rfl rfl ?_)
  ·have hall : zej x l = false := hall
   rw [hall, if_neg (by decide)]
   refine zbb ?_
   refine zag (za4 ?_)
   exact zaf ⟨.inr rfl, _, rfl, rfl⟩
  ·have hall : zej x l = zej x (l.drop (i + 1)) := hall
   rw [zas i (by omega)]
   exact zav (show l.length - (i + 1) < l.length - i by omega) (zcp [] [] rfl rfl rfl .nil .nil (.cons rfl (.same (zha x)) (.cons rfl (.same rfl) (.cons rfl (.same rfl) (.cons rfl (.same rfl) .nil))))) ⟨i + 1, rfl, hlt, hall, rfl⟩
  ·have hall : zej x l = zej x (l.drop (i + 1)) := hall
   rw [zas i (by omega)]
   exact zav (show l.length - (i + 1) < l.length - i by omega) (zcp [] [] rfl rfl rfl .nil .nil (.cons rfl (.same (zha x)) (.cons rfl (.same rfl) (.cons rfl (.same rfl) (.cons rfl (.same rfl) .nil))))) ⟨i + 1, rfl, hlt, hall, rfl⟩
  ·have hall : zej x l = false := hall
   rw [hall, if_neg (by decide)]
   refine zbb ?_
   refine zag (za4 ?_)
   exact zaf ⟨.inr rfl, _, rfl, rfl⟩
 ·have hi2 : i = l.length := by
   have : ¬ ((i : Nat) : Int) < ((cSs l).length : Nat) := of_decide_eq_false h3
   rw [hcl] at this
   omega
  rw [hi2, y0s] at hall
  have hall : zej x l = true := hall
  rw [hall, if_pos rfl]
  refine onu (za8 (zb8 rfl (zbm (zao ?_))))
  refine zcn ?_
  refine zbl (zaa (zsr rfl (za1 rfl (onu (zak ?_)))))
  exact zaf ⟨.inr rfl, _, rfl, rfl⟩
def ixB (c : Bool) : Nat → List Bool → Int
 | _, [] => -1
 | i, y :: ys => if (c == y) = true then (i : Int) else ixB c (i + 1) ys
theorem zz0 (c : Bool) : ∀ (i : Nat) (l : List Bool), decide (ixB c i l ≥ 0) = l.any (· == c)
 | _, [] => rfl
 | i, y :: ys => by
  rw [ixB, List.any_cons]
  by_cases h : c = y
  ·subst h
   rw [if_pos (by simp), decide_eq_true (by omega)]
   simp
  ·rw [if_neg (by simpa using h), zz0 c (i + 1) ys, show (y == c) = false from by simpa using fun e => h e.symm, Bool.false_or]
theorem vsB_at {l : List Bool} {i : Nat} (h : i < l.length) : (l.map fun b => ([.bool b] : List AV))[((i : Nat) : Int).toNat]? = some [.bool l[i]] := by
 rw [y0w, y0i, y07 h]
 rfl
def b150_0 : IC := .seq (.region [oM 9 (.bin .lss (.t 8) (.t 7))] none)
 (.seq (.cond (.t 9) (.skip)
 (.exit 0))
 (.seq (.block 1 (.seq (.region [oT 10 8,
  oT 5 10] none)
 (.seq (.region [oT 11 1,
  oT 12 0,
  oT 13 5,
  oM 14 (.idxs 1 (.t 12) (.t 13)),
  oN 15 14,
  oM 16 (.eqb false (.t 11) (.t 15))] none)
 (.cond (.t 16) (.seq (.region [oT 17 5,
  oT 4 17] none)
 (.ret))
 (.skip)))))
 (.region [oM 18 (.bin .add (.t 8) (.c (.int .i64 1))),
  oT 8 18] none)))
-- slices.Index[[]bool,bool]
def ic150 : IC := .seq (.region [oM 4 (.mov (.c (.int .i64 0)))] none)
 (.seq (.seq (.region [oT 6 0,
  oM 7 (.len false (.t 6)),
  oM 8 (.mov (.c (.int .i64 0)))] none)
 (.block 0 (.loop b150_0)))
 (.seq (.region [oM 4 (.mov (.c (.int .i64 (-1))))] none)
 (.ret)))
theorem fn150 : env0.fn 150 = some ⟨19, ic150, [.t 4]⟩ := by kernel_rfl
theorem index97 (l : List Bool) (hl : l.length ≤ 100000) (c : Bool) : PF Try.prog 150 [vsB l, .bool c] (.int .i64 (ixB c 0 l)) := by
 have hcl : (l.map fun b => ([.bool b] : List AV)).length = l.length := y09 ..
 refine zb1 env0_ok fn150 [(0, vsB l), (1, .bool c)] (by show 2 ≤ 19; decide) rfl fun w0 N0 => ?_
 unfold ic150
 refine zsr rfl (za1 rfl (onu (za8 (zsr rfl (za1 rfl (zbd rfl rfl (za1 rfl (onu (zac ?_)))))))))
 refine zbu (fun mm S => ∃ i, mm = l.length - i ∧ i ≤ l.length ∧ ixB c 0 l = ixB c i (l.drop i) ∧
   S = st 19 [(0, vsB l), (1, .bool c), (7, .int .i64 (l.map fun b => ([.bool b] : List AV)).length), (8, .int .i64 (i : Nat))] [] 0 1) l.length
  (ze3 (.cons rfl (.same rfl) (.cons rfl (.same rfl) (.cons rfl (.same rfl) (.cons rfl (.same rfl) .nil))))) ⟨0, rfl, y0t _, rfl, rfl⟩ ?_
 rintro mm S ⟨i, rfl, hi, hall, rfl⟩
 unfold b150_0
 refine zsr rfl ?_
 refine zaq rfl rfl rfl (fun h3 => ?_) fun h3 => ?_
 ·have hlt : i < l.length := by
   have : ((i : Nat) : Int) < ((l.map fun b => ([.bool b] : List AV)).length : Nat) := of_decide_eq_true h3
   rw [hcl] at this
   omega
  have hd : l.drop i = l[i] :: l.drop (i + 1) := y0g hlt
  rw [hd, ixB] at hall
  have hg := vsB_at hlt
  generalize l[i] = y at hall hg
  cases c <;> cases y
  all_goals
   repeat (first | refine za8 ?_ | refine za5 rfl ?_ | refine zai ?_ | refine zaa ?_ | refine zb7 ?_ | refine zac ?_ | refine zab ?_ | refine zb4 rfl ?_ | refine zb8 rfl ?_ | refine zak ?_ | refine za4 ?_ | refine zag ?_ | refine za1 rfl ?_ | refine za7 rfl rfl ?_ | refine zb6 (op := .add) rfl rfl rfl ?_ | refine zzf rfl rfl rfl ?_ | refine zze rfl rfl rfl ?_ | refine zbh rfl rfl (by omega) (by assumption) rfl ?_)
  ·have hall : ixB false 0 l = (i : Int) := hall
   rw [hall]
   refine zbb ?_
   refine zag (za4 ?_)
   exact zaf ⟨.inr rfl, _, rfl, rfl⟩
  ·exact zav (show l.length - (i + 1) < l.length - i by omega) (ze3 (.cons rfl (.same rfl) (.cons rfl (.same rfl) (.cons rfl (.same rfl) (.cons rfl (zjv (congrArg (AV.int .i64) (zas i (by omega))) rfl) .nil))))) ⟨i + 1, rfl, hlt, hall, rfl⟩
  ·exact zav (show l.length - (i + 1) < l.length - i by omega) (ze3 (.cons rfl (.same rfl) (.cons rfl (.same rfl) (.cons rfl (.same rfl) (.cons rfl (zjv (congrArg (AV.int .i64) (zas i (by omega))) rfl) .nil))))) ⟨i + 1, rfl, hlt, hall, rfl⟩
  ·have hall : ixB true 0 l = (i : Int) := hall
   rw [hall]
   refine zbb ?_
   refine zag (za4 ?_)
   exact zaf ⟨.inr rfl, _, rfl, rfl⟩
 ·have hi2 : i = l.length := by
   have : ¬ ((i : Nat) : Int) < ((l.map fun b => ([.bool b] : List AV)).length : Nat) := of_decide_eq_false h3
   rw [hcl] at this
   omega
  rw [hi2, y0s, ixB] at hall
  rw [hall]
  refine onu (za8 (zb8 rfl (zbm (zao ?_))))
  refine zcn ?_
  refine zbl (zaa (zsr rfl (za1 rfl (onu (zak ?_)))))
  exact zaf ⟨.inr rfl, _, rfl, rfl⟩
-- slices.Contains[[]bool,bool]
def ic122 : IC := .seq (.region [oM 4 (.mov (.c (.bool false)))] none)
 (.seq (.region [oT 5 0,
  oT 6 1,
  oM 7 (.call (.c (.fn 150 [] [])) [(.t 5), (.t 6)]),
  oM 8 (.bin .geq (.t 7) (.c (.int .i64 0))),
  oT 4 8] none)
 (.ret))
theorem fn122 : env0.fn 122 = some ⟨9, ic122, [.t 4]⟩ := by kernel_rfl
theorem zel (l : List Bool) (hl : l.length ≤ 100000) (c : Bool) : PF Try.prog 122 [vsB l, .bool c] (.bool (l.any (· == c))) := by
 have h97 := index97 l hl c
 have ha := zz0 c 0 l
 refine zb1 env0_ok fn122 [(0, vsB l), (1, .bool c)] (by show 2 ≤ 9; decide) rfl fun w0 N0 => ?_
 unfold ic122
 rw [← ha]
 refine zsr rfl (za1 rfl (onr rfl (za1 rfl (za1 rfl ?_))))
 refine zap rfl rfl h97 noC ?_
 refine zaq rfl rfl rfl (fun h => ?_) fun h => ?_
 all_goals
  rw [h]
  refine za1 rfl (onu (zak ?_))
  exact zaf ⟨.inr rfl, _, rfl, rfl⟩
theorem zss : ∀ (l : List Sk) (z : Int), zkf z l = 0 → ∀ s ∈ l, z < s.a
 | [], _, _, s, hs => by cases hs
 | t :: r, z, h, s, hs => by
  rw [zkf] at h
  split at h
  ·exact absurd h (by decide)
  split at h
  ·exact absurd h (by decide)
  rename_i h1
  split at h
  ·exact absurd h (by decide)
  rename_i h2
  have h1 : ¬ t.a = z := by simpa using h1
  have h2 : ¬ t.a < z := by simpa using h2
  rcases y0m.1 hs with rfl | hs
  ·omega
  ·have := zss r _ h s hs
   omega
theorem zlq {s : Sk} {r : List Sk} {z : Int} (h : zkf z (s :: r) = 0) : zkf s.a r = 0 := by
 rw [zkf] at h
 split at h
 ·exact absurd h (by decide)
 split at h
 ·exact absurd h (by decide)
 split at h
 ·exact absurd h (by decide)
 exact h
def zj1 (b : Bool) : Int := if b = true then 2 else 0
def enE (E : List Bool) : List Int := E.map zj1
def chA (E : List Bool) : List (List Int) := E.map fun b => [zj1 b]
def zhp (o : Bool) : List Int := if o = true then [1, 2] else [3, 0]
def chS : List (List Int) → List Sk → List (List Int)
 | C, [] => C
 | C, s :: r => chS (C.set s.a.toNat (C.getD s.a.toNat [] ++ zhp s.o)) r
theorem zdv : ∀ (l : List Sk) (C : List (List Int)), (chS C l).length = C.length
 | [], _ => rfl
 | s :: r, C => by rw [chS, zdv r, y1c]
theorem zlu {i : Int} : ∀ {l : List Sk}, (∀ s ∈ l, s.a ≠ i) → zix i l = 0
 | [], _ => rfl
 | s :: r, h => by
  rw [zix, if_neg (by have := h s (y05 ..); simpa using this)]
  exact zlu fun t ht => h t (y04 _ ht)
def wayP (w : Int) : List Int := if w = 1 then [1, 2] else if w = -1 then [3, 0] else []
theorem zxh : ∀ (l : List Sk) (z : Int) (C : List (List Int)) (i : Nat), zkf z l = 0 → (∀ s ∈ l, 0 ≤ s.a ∧ s.a < C.length) → (chS C l).getD i [] = C.getD i [] ++ wayP (zix i l)
 | [], _, C, i, _, _ => (y0p _).symm
 | s :: r, z, C, i, h, ha => by
  have ht := zlq h
  have hr := zss r _ ht
  obtain ⟨a0, a1⟩ := ha s (y05 ..)
  rw [chS, zxh r s.a _ i ht fun t ht => by rw [y1c]; exact ha t (y04 _ ht)]
  by_cases e : s.a = (i : Int)
  ·have e2 : s.a.toNat = i := by omega
   rw [zlu (l := r) fun t ht => by have := hr t ht; omega, zix, if_pos (by simpa using e), e2, show wayP 0 = [] from rfl, y0p]
   rw [y06, y2f (by omega), y18]
   cases s.o <;> rfl
  ·have e2 : s.a.toNat ≠ i := by omega
   rw [zix, if_neg (by simpa using e)]
   rw [y06, y1v e2, ← y06]
theorem zup {E : List Bool} {i : Nat} : ∀ {l : List Sk}, (∀ s ∈ l, 0 ≤ s.a) → zej E l = true → (zix i l = 1 ∧ E.getD i false = false) ∨ (zix i l = -1 ∧ E.getD i false = true) ∨ zix i l = 0
 | [], _, _ => .inr (.inr rfl)
 | s :: r, h0, h => by
  have h : (!(E.getD s.a.toNat false == s.o) && zej E r) = true := h
  rw [y0h] at h
  obtain ⟨h1, h2⟩ := h
  have a0 := h0 s (y05 ..)
  by_cases e : s.a = (i : Int)
  ·have e2 : s.a.toNat = i := by omega
   rw [zix, if_pos (by simpa using e)]
   rw [e2] at h1
   generalize E.getD i false = b at h1 ⊢
   cases ho : s.o
   ·rw [ho] at h1; cases b
    ·exact absurd h1 (by decide)
    ·exact .inr (.inl ⟨rfl, rfl⟩)
   ·rw [ho] at h1; cases b
    ·exact .inl ⟨rfl, rfl⟩
    ·exact absurd h1 (by decide)
  ·rw [zix, if_neg (by simpa using e)]
   exact zup (fun t ht => h0 t (y04 _ ht)) h2
theorem zpe {i : Nat} : ∀ (l : List Sk) (E : List Bool), (∀ s ∈ l, 0 ≤ s.a) → zix i l = 0 → (aft E l).getD i false = E.getD i false
 | [], _, _, _ => rfl
 | s :: r, E, h0, h => by
  have a0 := h0 s (y05 ..)
  rw [zix] at h
  by_cases e : s.a = (i : Int)
  ·rw [if_pos (by simpa using e)] at h
   split at h <;> exact absurd h (by decide)
  ·rw [if_neg (by simpa using e)] at h
   have e2 : s.a.toNat ≠ i := by omega
   show (aft (E.set s.a.toNat s.o) r).getD i false = _
   rw [zpe r _ (fun t ht => h0 t (y04 _ ht)) h, y06, y1v e2, ← y06]
def zm4 (E F : List Bool) (l : List Sk) (i : Nat) : List Int := if zix i l = 1 then [0, 1, 2] else if zix i l = -1 then [2, 3, 0] else [zj1 (E.getD i false && F.getD i false)]
def zfp (E F : List Bool) (l : List Sk) (n : Nat) : List (List Int) := (List.range n).map (zm4 E F l)
theorem zqv {E F : List Bool} {l : List Sk} {n i : Nat} (h : i < (zfp E F l n).length) : (zfp E F l n)[i] = zm4 E F l i := by
 simp [zfp]
theorem chS_stat {E : List Bool} {l : List Sk} {z : Int} (h : zkf z l = 0) (h0 : ∀ s ∈ l, 0 ≤ s.a ∧ s.a < E.length) (hs : zej E l = true) : chS (chA E) l = zfp E (aft E l) l E.length := by
 have hl : (chA E).length = E.length := y09 ..
 refine List.ext_getElem (by rw [zdv, hl]; unfold zfp; rw [y09, y20]) fun i h1 h2 => ?_
 have hi : i < E.length := by rw [zdv, hl] at h1; exact h1
 have hg := zxh l z (chA E) i h fun s hs => by rw [hl]; exact h0 s hs
 rw [y06, y07 h1, y18] at hg
 rw [hg]
 have hc : (chA E).getD i [] = [zj1 (E.getD i false)] := by
  unfold chA
  rw [y06, y0i, y07 hi, y06, y07 hi]
  rfl
 rw [hc, zqv h2]
 unfold zm4
 rcases zup (i := i) (fun s hs => (h0 s hs).1) hs with ⟨e, e2⟩ | ⟨e, e2⟩ | e
 ·rw [e, e2]; rfl
 ·rw [e, e2]; rfl
 ·rw [zpe l E (fun s hs => (h0 s hs).1) e, e]
  cases E.getD i false <;> rfl
def zgy (E : List Bool) (l : List Sp) : List Bool := l.foldl (fun E p => aft E p.l) E
theorem zhd (l : List Sp) : ∀ E : List Bool, (zgy E l).length = E.length := by
 induction l with
 | nil => exact fun _ => rfl
 | cons p l ih =>
  intro E
  show (zgy (aft E p.l) l).length = _
  rw [ih, zd6]
theorem zko {E : List Bool} {l : List Sp} {i : Nat} (h : i < l.length) : zgy E (l.take (i + 1)) = aft (zgy E (l.take i)) l[i].l := by
 unfold zgy
 rw [y2e, y07 h, List.foldl_append]
 rfl
def zqx (n : Int) : List Sp → List Bool → Int
 | [], E => if E.any id = true then 9 else 0
 | p :: r, E => if spC p ≠ 0 then spC p else if zj4 n p.l = true then 6 else if zej E p.l = true then zqx n r (aft E p.l) else 14
def zte (n : Int) (l : List Sp) : Int :=
 if n < 1 ∨ n > 6 then 2 else if l.length = 0 then 13 else if l.length > 64 then 5 else if zqx n l (List.replicate n.toNat false) ≠ 0 then zqx n l (List.replicate n.toNat false) else if (List.range n.toNat).all (fun i => ztz (i : Nat) l) = true then 0 else 13
def mvd (m : List Bool) (l : List Sk) : List Bool := l.foldl (fun m s => m.set s.a.toNat true) m
theorem zjb (l : List Sk) : ∀ x : List Bool, (mvd x l).length = x.length := by
 induction l with
 | nil => exact fun _ => rfl
 | cons s l ih =>
  intro x
  show (mvd (x.set s.a.toNat true) l).length = _
  rw [ih, y1c]
theorem mvd_take {x : List Bool} {l : List Sk} {i : Nat} (h : i < l.length) : mvd x (l.take (i + 1)) = (mvd x (l.take i)).set l[i].a.toNat true := by
 unfold mvd
 rw [y2e, y07 h, List.foldl_append]
 rfl
theorem zza {i : Nat} : ∀ (l : List Sk) (m : List Bool), i < m.length → (∀ s ∈ l, 0 ≤ s.a) → (mvd m l).getD i false = (m.getD i false || zix i l != 0)
 | [], m, _, _ => (Bool.or_false _).symm
 | s :: r, m, hi, h0 => by
  have a0 := h0 s (y05 ..)
  show (mvd (m.set s.a.toNat true) r).getD i false = _
  rw [zza r _ (by rw [y1c]; exact hi) fun t ht => h0 t (y04 _ ht), zix]
  by_cases e : s.a = (i : Int)
  ·have e2 : s.a.toNat = i := by omega
   rw [if_pos (by simpa using e), e2, y06, y2f hi, y18, Bool.true_or]
   cases s.o
   ·exact (Bool.or_true _).symm
   ·exact (Bool.or_true _).symm
  ·have e2 : s.a.toNat ≠ i := by omega
   rw [if_neg (by simpa using e), y06, y1v e2, ← y06]
def seqC (n : Int) : List Sp → List Bool → List Bool → Int
 | [], x, m => if x = List.replicate 6 false then (if (m.take n.toNat).any (· == false) = true then 13 else 0) else 9
 | p :: r, x, m => if fitC n p x ≠ 0 then fitC n p x else seqC n r (aft x p.l) (mvd m p.l)
def chkP (n : Int) (l : List Sp) : Int :=
 if n < 1 ∨ n > 6 then 2 else if l.length = 0 then 13 else if l.length > 64 then 5 else seqC n l (List.replicate 6 false) (List.replicate 6 false)
theorem zrt {n : Int} : ∀ {l : List Sk}, zj4 n l = false → ∀ s ∈ l, s.a < n
 | [], _, s, hs => by cases hs
 | t :: r, h, s, hs => by
  have h : (decide (t.a ≥ n) || zj4 n r) = false := h
  rw [y16, decide_eq_false_iff_not] at h
  rcases y0m.1 hs with rfl | hs
  ·omega
  ·exact zrt h.2 s hs
theorem zr6 {T : List Bool} : ∀ (l : List Sk) (E : List Bool), (∀ s ∈ l, 0 ≤ s.a ∧ s.a < E.length) → aft (E ++ T) l = aft E l ++ T
 | [], _, _ => rfl
 | s :: r, E, h => by
  obtain ⟨a0, a1⟩ := h s (y05 ..)
  show aft ((E ++ T).set s.a.toNat s.o) r = _
  rw [List.set_append_left _ _ (by omega)]
  exact zr6 r _ fun t ht => by rw [y1c]; exact h t (y04 _ ht)
theorem zuo {E T : List Bool} : ∀ (l : List Sk), (∀ s ∈ l, 0 ≤ s.a ∧ s.a < E.length) → zej (E ++ T) l = zej E l
 | [], _ => rfl
 | s :: r, h => by
  obtain ⟨a0, a1⟩ := h s (y05 ..)
  show (!((E ++ T).getD s.a.toNat false == s.o) && zej (E ++ T) r) = (!(E.getD s.a.toNat false == s.o) && zej E r)
  rw [zuo r fun t ht => h t (y04 _ ht), y06, y0u (by omega), ← y06]
theorem zgx : ∀ (E : List Bool), E.any id = false ↔ E = List.replicate E.length false
 | [] => ⟨fun _ => rfl, fun _ => rfl⟩
 | b :: E => by
  rw [List.any_cons, y0n, y25, y16, zgx E]
  constructor
  ·rintro ⟨h1, h2⟩
   have h1 : b = false := h1
   rw [h1, ← h2]
  ·intro h
   injection h with h1 h2
   exact ⟨h1, h2⟩
theorem take_any {n : Nat} : ∀ {m : List Bool}, n ≤ m.length → ((m.take n).any (· == false) = true ↔ ¬ (List.range n).all (fun i => m.getD i false) = true) := by
 intro m hn
 rw [List.any_eq_true, y0f]
 constructor
 ·rintro ⟨x, hx, hf⟩ h
  obtain ⟨i, hi, rfl⟩ := y1g.1 hx
  rw [y1u] at hi
  have := h i (y10.2 (by omega))
  rw [y06, y07 (by omega), y18] at this
  rw [List.getElem_take, this] at hf
  exact absurd hf (by decide)
 ·intro h
  refine Classical.byContradiction fun hc => h fun i hi => ?_
  have hi := y10.1 hi
  rw [y06, y07 (by omega), y18]
  cases e : m[i]'(by omega) with
  | true => rfl
  | false => exact absurd ⟨m[i]'(by omega), y1g.2 ⟨i, by rw [y1u]; omega, List.getElem_take⟩, by rw [e]; rfl⟩ hc
theorem ya7 {n : Nat} (h6 : n ≤ 6) : ∀ (l : List Sp) (E m : List Bool), E.length = n → m.length = 6 → seqC n l (E ++ List.replicate (6 - n) false) m = if zqx n l E ≠ 0 then zqx n l E else if (List.range n).all (fun i => m.getD i false || ztz (i : Nat) l) = true then 0 else 13
 | [], E, m, hE, hm => by
  rw [seqC, zqx, y0w]
  have e6 : E ++ List.replicate (6 - n) false = List.replicate 6 false ↔ E.any id = false := by
   rw [zgx, hE, show 6 = n + (6 - n) from by omega, ← y1i, show n + (6 - n) - n = 6 - n from by omega]
   exact ⟨fun h => (List.append_inj h (by rw [hE, y11])).1, fun h => by rw [h]⟩
  have hmv : ((List.range n).all fun i => m.getD i false || ztz (i : Nat) []) = (List.range n).all fun i => m.getD i false := by
   congr 1
   funext i
   exact Bool.or_false _
  rw [hmv]
  have ht := take_any (m := m) (n := n) (by omega)
  cases ha : E.any id with
  | true =>
   rw [if_neg (fun h => by have := e6.1 h; rw [ha] at this; exact absurd this (by decide)), if_pos rfl, if_pos (by decide)]
  | false =>
   rw [if_pos (e6.2 ha), if_neg (show ¬ ((if false = true then (9 : Int) else 0) ≠ 0) from by decide)]
   by_cases h : (m.take n).any (· == false) = true
   ·rw [if_pos h, if_neg (ht.1 h)]
   ·rw [if_neg h, if_pos (Classical.byContradiction fun hc => h (ht.2 hc))]
 | p :: r, E, m, hE, hm => by
  have hfit : ∀ x, fitC n p x = if spC p ≠ 0 then spC p else if zj4 n p.l = true then 6 else if zej x p.l = true then 0 else 14 := fun _ => rfl
  rw [seqC, hfit, zqx]
  by_cases h1 : spC p = 0
  ·simp only [h1, ne_eq, not_true_eq_false, ↓reduceIte]
   cases h2 : zj4 n p.l with
   | true => simp
   | false =>
    have hlt := zrt h2
    have ha : ∀ s ∈ p.l, 0 ≤ s.a ∧ s.a < E.length := fun s hs => ⟨((zqu h1).2 s hs).1, by have := hlt s hs; omega⟩
    rw [zuo p.l ha]
    cases h3 : zej E p.l with
    | false => simp
    | true =>
     simp only [y0l, ↓reduceIte, not_true_eq_false]
     rw [zr6 p.l E ha, ya7 h6 r (aft E p.l) (mvd m p.l) (by rw [zd6]; exact hE) (by rw [zjb]; exact hm)]
     have e : ((List.range n).all fun i => (mvd m p.l).getD i false || ztz (i : Nat) r) = (List.range n).all fun i => m.getD i false || ztz (i : Nat) (p :: r) := by
      rw [Bool.eq_iff_iff, y0f, y0f]
      refine forall_congr' fun i => imp_congr_right fun hi => ?_
      have hi := y10.1 hi
      rw [zza p.l m (by omega) fun s hs => (ha s hs).1, ztz]
      cases (zix (i : Nat) p.l != 0) <;> cases m.getD i false <;> simp
     rw [e]
  ·simp [h1]
theorem zxj (n : Int) (l : List Sp) : chkP n l = zte n l := by
 unfold chkP zte
 by_cases h : n < 1 ∨ n > 6
 ·rw [if_pos h, if_pos h]
 rw [if_neg h, if_neg h]
 by_cases h2 : l.length = 0
 ·rw [if_pos h2, if_pos h2]
 rw [if_neg h2, if_neg h2]
 by_cases h3 : l.length > 64
 ·rw [if_pos h3, if_pos h3]
 rw [if_neg h3, if_neg h3]
 obtain ⟨m, rfl⟩ : ∃ m : Nat, n = (m : Int) := ⟨n.toNat, by omega⟩
 have := ya7 (n := m) (by omega) l (List.replicate m false) (List.replicate 6 false) (y11 ..) rfl
 rw [y1i, show m + (6 - m) = 6 from by omega] at this
 rw [this, y0w]
 have e : ((List.range m).all fun i => (List.replicate 6 false).getD i false || ztz (i : Nat) l) = (List.range m).all fun i => ztz (i : Nat) l := by
  congr 1
  funext i
  rw [show (List.replicate 6 false).getD i false = false from by
   rw [y06, List.getElem?_replicate]
   split <;> rfl, Bool.false_or]
 rw [e]
structure StpOk (n : Int) (E : List Bool) (p : Sp) : Prop where
 sp : spC p = 0
 hi : zj4 n p.l = false
 su : zej E p.l = true
theorem StpOk.acts {n : Int} {E : List Bool} {p : Sp} (h : StpOk n E p) (hE : (E.length : Int) = n) : ∀ s ∈ p.l, 0 ≤ s.a ∧ s.a < E.length := fun s hs =>
 ⟨((zqu h.sp).2 s hs).1, by have := zrt h.hi s hs; omega⟩
theorem yac {p : Sp} (h : spC p = 0) : zkf (-1) p.l = 0 := by
 unfold spC at h
 split at h
 ·exact absurd h (by decide)
 split at h
 ·exact absurd h (by decide)
 split at h
 ·rename_i h1; exact absurd h h1
 ·rename_i h1
  simpa using h1
theorem StpOk.stat {n : Int} {E : List Bool} {p : Sp} (h : StpOk n E p) (hE : (E.length : Int) = n) : chS (chA E) p.l = zfp E (aft E p.l) p.l E.length :=
 chS_stat (yac h.sp) (h.acts hE) h.su
theorem stp_head {n : Int} {E : List Bool} {p : Sp} {r : List Sp} (h : zqx n (p :: r) E = 0) : StpOk n E p ∧ zqx n r (aft E p.l) = 0 := by
 rw [zqx] at h
 split at h
 ·rename_i h1; exact absurd h h1
 rename_i h1
 split at h
 ·exact absurd h (by decide)
 rename_i h2
 split at h
 ·rename_i h3
  exact ⟨⟨by simpa using h1, by simpa using h2, h3⟩, h⟩
 ·exact absurd h (by decide)
theorem zsq {n : Int} : ∀ (l : List Sp) (E : List Bool), zqx n l E = 0 → (∀ k (h : k < l.length), StpOk n (zgy E (l.take k)) l[k]) ∧ (zgy E l).any id = false
 | [], E, h => by
  refine ⟨fun k h => absurd h (y2j k), ?_⟩
  rw [zqx] at h
  show E.any id = false
  cases e : E.any id with
  | false => rfl
  | true => rw [e, if_pos rfl] at h; exact absurd h (by decide)
 | p :: r, E, h => by
  obtain ⟨h1, h2⟩ := stp_head h
  obtain ⟨h3, h4⟩ := zsq r _ h2
  refine ⟨fun k hk => ?_, h4⟩
  cases k with
  | zero => exact h1
  | succ k => exact h3 k (by rw [y0n] at hk; omega)
structure SeqOk (n : Nat) (l : List Sp) : Prop where
 n1 : 1 ≤ n
 n6 : n ≤ 6
 l0 : l.length ≠ 0
 l64 : l.length ≤ 64
 st : zqx n l (List.replicate n false) = 0
 mv : (List.range n).all (fun i => ztz (i : Nat) l) = true
theorem chk_ok {n : Int} {l : List Sp} (h : zte n l = 0) : ∃ m : Nat, n = (m : Int) ∧ SeqOk m l := by
 unfold zte at h
 split at h
 ·exact absurd h (by decide)
 split at h
 ·exact absurd h (by decide)
 split at h
 ·exact absurd h (by decide)
 split at h
 ·rename_i h1; exact absurd h h1
 rename_i h4
 split at h
 ·rename_i h1 h2 h3 h5
  refine ⟨n.toNat, by omega, by omega, by omega, h2, by omega, ?_, h5⟩
  rw [Int.toNat_of_nonneg (by omega)]
  simpa using h4
 ·exact absurd h (by decide)
theorem SeqOk.step {n : Nat} {l : List Sp} (h : SeqOk n l) {k : Nat} (hk : k < l.length) : StpOk n (zgy (List.replicate n false) (l.take k)) l[k] := (zsq l _ h.st).1 k hk
theorem SeqOk.last {n : Nat} {l : List Sp} (h : SeqOk n l) : zgy (List.replicate n false) l = List.replicate n false := by
 have := (zgx _).1 (zsq l _ h.st).2
 rwa [zhd, y11] at this
def badP (f : List Ex) (C : List (List Int)) : Option (List Int) := C.find? fun p => !(ziu f p).isEmpty
def dgS (f : List Ex) : Nat → List Bool → List Sp → Int × List Int × Bool
 | _, _, [] => (0, [], false)
 | k, E, p :: r => match badP f (zeh (zfp E (aft E p.l) p.l E.length)) with
  | some q => ((k : Int), q, true)
  | none => dgS f (k + 1) (aft E p.l) r
def dgT (f : List Ex) (n : Int) (l : List Sp) : Int × List Int × Bool := if zte n l = 0 then (if zcc f n = 0 then dgS f 0 (List.replicate n.toNat false) l else (0, [], false)) else (0, [], false)
def dgC (f : List Ex) (n : Int) (l : List Sp) : Int := if zte n l = 0 then zcc f n else zte n l
def dgV (f : List Ex) (n : Int) (l : List Sp) : AV := .tup [.int .i64 (dgT f n l).1, vsI (dgT f n l).2.1, .bool (dgT f n l).2.2, .int .i64 (dgC f n l)]
theorem statI_ne (E F : List Bool) (l : List Sk) (i : Nat) : zm4 E F l i ≠ [] ∧ (zm4 E F l i).length ≤ 3 := by
 unfold zm4
 split
 ·exact ⟨by simp, by simp⟩
 split
 ·exact ⟨by simp, by simp⟩
 ·exact ⟨by simp, by simp⟩
theorem zgs (E F : List Bool) (l : List Sk) (n : Nat) : (zfp E F l n).length = n := by
 unfold zfp
 rw [y09, y20]
theorem statL_ne {E F : List Bool} {l : List Sk} {n : Nat} : ∀ c ∈ zfp E F l n, c ≠ [] ∧ c.length ≤ 3 := by
 intro c hc
 obtain ⟨i, _, rfl⟩ := y0o.1 hc
 exact statI_ne E F l i
section
variable {P : Program} {w0 : World} {N0 : Nat} {k : List Fr} {Q : Exit → AS → Prop} {pf : Kn} {ios : List Opr} {n nx ck : Nat} {mk : List (Nat × Nat)} {md : Md} {l : List (Nat × AV)} {hp : List (Nat × Nat × AObj)}
theorem zhj {d sz m : Nat} {ax : Arg} {al ah : Option Arg} {id sp off : Nat} {lv hv : Option AV} {lo hh : Int} (hx : zbt ax l = some (.mptr id sp off)) (h1 : zvl al l = some lv) (h2 : zct lv 0 = some lo) (h3 : zvl ah l = some hv) (h4 : zct hv m = some hh)
  (hb : 0 ≤ lo ∧ lo ≤ hh ∧ hh ≤ m) (go : Om P w0 N0 md pf ios (st n ((d, .ms id sp sz (off + lo.toNat * sz) (hh.toNat - lo.toNat) (some (m - lo.toNat))) :: l) hp nx ck mk) k Q) (hxx : Ops pf (st n l hp nx ck mk) (.slarr m sz ax al ah) := by exact trivial) :
  Om P w0 N0 md pf (⟨some d, .slarr m sz ax al ah, none⟩ :: ios) (st n l hp nx ck mk) k Q := by
 have e1 : (st n l hp nx ck mk).oarg al = some lv := (zos al).trans h1
 have e3 : (st n l hp nx ck mk).oarg ah = some hv := (zos ah).trans h3
 exact zg6 (by simp only [iop, zbi, hx, e1, e3, h2, h4, if_pos hb]) go hxx
theorem zq {ic : IC} {q : Nat} (hq : mk.length = q) (live : zgv) (fz : List (Nat × Nat × List AV)) (l' : List (Nat × AV)) (hok : okW (fz.map (·.1)) live = true) (hf : RnF hp fz) (h1 : RnH live fz hp live) (h2 : RnA live fz l l') (h : Zm P w0 N0 none ic (st n l' (zc5 0 live ++ zc8 live.length q) (q + live.length) 1 (zdz live.length q)) k Q) : Zm P w0 N0 none ic (st n l hp nx ck mk) k Q := by
 subst hq
 exact z_renwm live fz l' hok hf h1 h2 h
theorem sq {l' : List (Nat × AV)} {hp' : List (Nat × Nat × AObj)} {nx' q : Nat} {mk' : List (Nat × Nat)} (hq : mk.length = q) (live : zgv) (fz : List (Nat × Nat × List AV)) (hh : hp' = zc5 0 live ++ zc8 live.length q) (hx : nx' = q + live.length) (hm : mk' = zdz live.length q) (hok : okW (fz.map (·.1)) live = true) (hf : RnF hp fz) (h1 : RnH live fz hp live) (h2 : RnA live fz l l') : Sub0 w0 N0 (st n l hp nx ck mk) (st n l' hp' nx' 1 mk') := by
 subst hq hm
 exact zlr live fz hh hx hok hf h1 h2
end
-- pneumatic/guard.combinations
def ic82 : IC := .seq (.region [oM 1 (.box (.t 0)),
  oM 2 (.mov (.c (.nilf)))] none)
 (.seq (.region [oM 3 (.mkfn 130 [] [(.t 1)]),
  oT 2 3] none)
 (.ret))
theorem fn82 : env0.fn 82 = some ⟨4, ic82, [.t 2]⟩ := by kernel_rfl
theorem comb52 (cs : List (List Int)) : PF Try.prog 82 [css cs] (.fn 130 [] [.vptr [css cs]]) := by
 refine zb1 env0_ok fn82 [(0, css cs)] (by show 1 ≤ 4; decide) rfl fun w0 N0 => ?_
 unfold ic82
 refine zsr rfl (zc1 rfl rfl (za1 rfl (onr rfl (zfk rfl rfl (za1 rfl (onu (zak ?_)))))))
 exact zaf ⟨.inr rfl, _, rfl, rfl⟩
noncomputable def ca27_0 : Code := match env0.fn 27 with
 | some i => ((zbs i.ic)[0]?.getD (.skip, .skip)).1
 | none => .skip
noncomputable def cb27_0 : Code := match env0.fn 27 with
 | some i => ((zbs i.ic)[0]?.getD (.skip, .skip)).2
 | none => .skip
def okL (l : List Ex) (s : List (List Int)) : List (List Int) := s.filter fun p => (ziu l p).isEmpty
structure I34 (l : List Ex) (ltm : List (Nat × AV)) (s : List (List Int)) (H : HS) : Prop where
 nx : 4 ≤ H.next
 h3 : Am.look 3 H.heap = some (2, .loop .ready none 32 (zcz ltm) [20] ca27_0 cb27_0 (2, 1))
 h2 : Am.look 2 H.heap = some (1, .deferred)
 h0 : ∃ sp, Am.look 0 H.heap = some (0, .cells [.ms 1 sp 1 0 (okL l s).length none]) ∧ Am.look 1 H.heap = some (sp, .cells (zvt (okL l s)))
section
variable {w0 : World} {N0 : Nat} {k : List Fr} {Q : Exit → AS → Prop}
theorem SeqOk.behLen {n : Nat} {l : List Sp} (k : Nat) : (zgy (List.replicate n false) (l.take k)).length = n := by
 rw [zhd, y11]
theorem StpOk.len {n : Int} {E : List Bool} {p : Sp} (h : StpOk n E p) : p.l.length ≤ 6 := (zqu h.sp).1
end
section
variable {w0 : World} {N0 : Nat} {k : List Fr} {Q : Exit → AS → Prop}
theorem dgS_step {f : List Ex} {n : Nat} {l : List Sp} (E0 : List Bool) (hE0 : E0.length = n) {i : Nat} (h : i < l.length) : dgS f i (zgy E0 (l.take i)) (l.drop i) = match badP f (zeh (zfp (zgy E0 (l.take i)) (aft (zgy E0 (l.take i)) l[i].l) l[i].l n)) with
  | some q => ((i : Int), q, true)
  | none => dgS f (i + 1) (zgy E0 (l.take (i + 1))) (l.drop (i + 1)) := by
 rw [y0g h, dgS, zhd, hE0, zko h]
 try rfl
end
end Go.Proofs.Ytoiblgbaeglgoaa
