/-
  THE REFERENCE's PATHS: Joined and Way walked.; THE ORDER: a growing list beside other memory; slices.Index; sorted walked.; PATHS: led walked.; THE ORDER: sorted walked.; THE ORDER: Order and Layers walked.; THE LAW's CALLEES: Reach, SameInts.; REVERSED GRAPHS: reversed and Reverse walked; graphs that are the same.; PATHS: Path on both sides.; CYCLES: plain law; a list behind a literal; Cycle walk
-/
import Derived.Test.YtfbeableaihooaaNX2
namespace Go.Proofs.Ytfbeableaihooaa
open Go Go.Am
inductive Wq (hp : List (Nat × Nat × AObj)) (nx : Nat) (q : List Int) : AV → Prop
 | lit {id sp : Nat} (a : Int) (hq : q = [a]) (hl : Am.look id hp = some (sp, .cells [.int .i64 a])) (hn : id < nx) : Wq hp nx q (.ms id sp 1 0 1 (some 1))
 | gen {id sp len : Nat} (hlen : len = q.length) (hl : Am.look id hp = some (sp, .cells (q.map (AV.int .i64)))) (hn : id < nx) : Wq hp nx q (.ms id sp 1 0 len none)
theorem Wq.fresh {nx : Nat} {hp : List (Nat × Nat × AObj)} {q : List Int} {qv : AV} (h : Wq hp nx q qv) (ck : Nat) (x : AObj) : Wq ((nx, ck, x) :: hp) (nx + 1) q qv := by
 cases h with
 | lit a hq hl hn => exact .lit a hq (by rw [za3, if_neg (by omega)]; exact hl) (by omega)
 | gen hlen hl hn => exact .gen hlen (by rw [za3, if_neg (by omega)]; exact hl) (by omega)
theorem Wq.view {nx d : Nat} {S : AS} {q : List Int} {qv : AV} (h : Wq S.heap nx q qv) : S.view (d + 1) qv = vsI q := by
 cases h with
 | lit a hq hl hn => subst hq; exact zce [a] rfl hl
 | gen hlen hl hn => subst hlen; exact zce q rfl hl
theorem o_wapp {w0 : World} {N0 n d nx ck : Nat} {k : List Fr} {Q : Exit → AS → Prop} {l : List (Nat × AV)} {ios : List Opr} {q : List Int} {qv : AV} {hp : List (Nat × Nat × AObj)} {bytes j sj : Nat} {x0 : Int} {z : List AV} {s x : Arg} (hF : Wq hp nx q qv) (hlen : q.length ≤ 1000000) (hs : zb6 s l = some qv) (hx : zb6 x l = some (.ms j sj 1 0 1 (some 1))) (hj : Am.look j hp = some (sj, .cells [.int .i64 x0])) (hb : bytes ≤ 16777216)
  (go : ∀ id sp hp' nx' ck', Am.look id hp' = some (sp, .cells ((q ++ [x0]).map (AV.int .i64))) → id < nx' → Om Try.prog w0 N0 none (KnP Try.prog w0 N0) ios (st n ((d, .ms id sp 1 0 (q.length + 1) none) :: l) hp' nx' ck') k Q) :
  Om Try.prog w0 N0 none (KnP Try.prog w0 N0) (⟨some d, .append 1 bytes z s x, none⟩ :: ios) (st n l hp nx ck) k Q := by
 have hel : (st n l hp nx ck []).elems 1 (.ms j sj 1 0 1 (some 1)) = some [[.int .i64 x0]] := zcv (xs := [[.int .i64 x0]]) (ys := []) hj rfl fun x hx => by obtain rfl := y0f.1 hx; rfl
 cases hF with
 | @lit id sp a hq hl hn =>
  subst hq
  have hi : iop (st n l hp nx ck) (.append 1 bytes z s x) = some (.ms nx ck 1 0 2 none, st n l ((nx, ck, .cells ([a, x0].map (AV.int .i64))) :: hp) (nx + 1) (ck + 1)) := by
   simp only [iop, zaq, hs, hx, hel]
   unfold zbg
   rw [if_neg (show ¬ [[AV.int .i64 x0]].length = 0 from y24 0), if_pos (show [[AV.int .i64 x0]].flatten.all AV.isCell = true ∧ bytes ≤ 16777216 from ⟨rfl, hb⟩)]
   simp only [show (st n l hp nx ck []).heap = hp from rfl, hl]
   rw [if_pos (show True ∧ True ∧ 0 + 1 * 1 ≤ ([AV.int .i64 a]).length ∧ 1 + [[AV.int .i64 x0]].length ≤ 1048576 from ⟨trivial, trivial, y0c 1, (by show 2 ≤ 1048576; decide)⟩), if_neg (show ¬ 1 + [[AV.int .i64 x0]].length ≤ 1 from (by show ¬ 2 ≤ 1; decide))]
   rfl
  exact zdt hi (go _ _ _ _ _ zah (y0q _)) (fun _ _ _ _ _ _ _ => rfl)
 | @gen id sp len hlen2 hl hn =>
  subst hlen2
  refine zdq [[.int .i64 x0]] hs hx hel (fun h => Nat.noConfusion h) rfl hb hl (by rw [y04, Nat.mul_one]) (by show _ + 1 ≤ _; omega) ?_ (fun _ _ _ _ _ _ _ => rfl)
  exact go _ _ _ _ _ (by rw [za4, if_pos rfl, y1u]; rfl) hn
def dnx (P : Nat → Bool) (m i : Nat) : Int := match ((List.range m).drop i).find? P with
 | some u => (u : Nat)
 | none => -1
theorem zpe {P : Nat → Bool} {m i : Nat} (h : i < m) : dnx P m i = if P i = true then ((i : Nat) : Int) else dnx P m (i + 1) := by
 unfold dnx
 rw [y1o (by rw [y0m]; exact h), List.getElem_range, List.find?_cons]
 cases P i <;> rfl
theorem ztg (P : Nat → Bool) (m : Nat) : dnx P m m = -1 := by
 unfold dnx
 rw [List.drop_of_length_le (by rw [y0m]; exact y0c _)]
 rfl
def Gv (b : Nat) (q : List Int) (w : AV) (hp : List (Nat × Nat × AObj)) (nx : Nat) : Prop :=
 (q = [] ∧ w = .nils) ∨ ∃ id sp, w = .ms id sp 1 0 q.length none ∧ Am.look id hp = some (sp, .cells (q.map (AV.int .i64))) ∧ b < id ∧ id < nx
section
variable {b nx : Nat} {q : List Int} {w : AV} {hp : List (Nat × Nat × AObj)}
theorem Gv.fresh (h : Gv b q w hp nx) (ck : Nat) (x : AObj) : Gv b q w ((nx, ck, x) :: hp) (nx + 1) := by
 rcases h with h | ⟨id, sp, e, hl, h1, h2⟩
 ·exact .inl h
 ·exact .inr ⟨id, sp, e, by rw [za3, if_neg (by omega)]; exact hl, h1, by omega⟩
theorem Gv.put (h : Gv b q w hp nx) {i : Nat} (hi : i ≤ b) (x : Nat × AObj) : Gv b q w (zbu i x hp) nx := by
 rcases h with h | ⟨id, sp, e, hl, h1, h2⟩
 ·exact .inl h
 ·exact .inr ⟨id, sp, e, by rw [za4, if_neg (by omega)]; exact hl, h1, h2⟩
theorem Gv.view {S : AS} {d : Nat} (h : Gv b q w S.heap nx) : S.view (d + 1) w = vsI q := by
 rcases h with ⟨rfl, rfl⟩ | ⟨id, sp, rfl, hl, _, _⟩
 ·rfl
 ·exact zce q rfl hl
theorem o_glen {w0 : World} {N0 n d ck : Nat} {md : Md} {k : List Fr} {Q : Exit → AS → Prop} {l : List (Nat × AV)} {ios : List Opr} {x : Arg} (hF : Gv b q w hp nx) (hx : zb6 x l = some w) (go : Om Try.prog w0 N0 md (KnP Try.prog w0 N0) ios (st n ((d, .int .i64 (q.length : Nat)) :: l) hp nx ck) k Q) : Om Try.prog w0 N0 md (KnP Try.prog w0 N0) (⟨some d, .len false x, none⟩ :: ios) (st n l hp nx ck) k Q := by
 rcases hF with ⟨rfl, rfl⟩ | ⟨id, sp, rfl, _, _, _⟩
 ·exact zbl hx rfl go
 ·exact zbl hx rfl go
theorem o_gapp {w0 : World} {N0 n d ck : Nat} {md : Md} {k : List Fr} {Q : Exit → AS → Prop} {l : List (Nat × AV)} {ios : List Opr} {bytes j sj : Nat} {x0 : Int} {z : List AV} {s x : Arg} (hF : Gv b q w hp nx) (hbn : b < nx) (hlen : q.length ≤ 1000000) (hs : zb6 s l = some w) (hx : zb6 x l = some (.ms j sj 1 0 1 (some 1))) (hj : Am.look j hp = some (sj, .cells [.int .i64 x0])) (hb : bytes ≤ 16777216)
  (go : ∀ w' hp' nx' ck', Gv b (q ++ [x0]) w' hp' nx' → b < nx' → (∀ i, i ≤ b → Am.look i hp' = Am.look i hp) → Om Try.prog w0 N0 md (KnP Try.prog w0 N0) ios (st n ((d, w') :: l) hp' nx' ck') k Q) :
  Om Try.prog w0 N0 md (KnP Try.prog w0 N0) (⟨some d, .append 1 bytes z s x, none⟩ :: ios) (st n l hp nx ck) k Q := by
 have hel : ∀ l, (st n l hp nx ck []).elems 1 (.ms j sj 1 0 1 (some 1)) = some [[.int .i64 x0]] := fun l => zcv (xs := [[.int .i64 x0]]) (ys := []) hj rfl fun x hx => by obtain rfl := y0f.1 hx; rfl
 rcases hF with ⟨rfl, rfl⟩ | ⟨id, sp, rfl, hl, h1, h2⟩
 ·have hi : iop (st n l hp nx ck) (.append 1 bytes z s x) = some (.ms nx ck 1 0 1 none, st n l ((nx, ck, .cells [.int .i64 x0]) :: hp) (nx + 1) (ck + 1)) := by
   simp only [iop, zaq, hs, hx, hel]
   unfold zbg
   rw [if_neg (show ¬ [[AV.int .i64 x0]].length = 0 from y24 0), if_pos (show [[AV.int .i64 x0]].flatten.all AV.isCell = true ∧ bytes ≤ 16777216 from ⟨rfl, hb⟩)]
   rfl
  exact zdt hi (go _ _ _ _ (.inr ⟨nx, ck, rfl, zah, hbn, y0q _⟩) (by omega) fun i hi => by rw [za3, if_neg (by omega)]) (fun _ _ _ _ _ _ _ => rfl)
 ·refine zdq [[.int .i64 x0]] hs hx (hel _) (fun h => Nat.noConfusion h) rfl hb hl (by rw [y04, Nat.mul_one]) (by show _ + 1 ≤ _; omega) ?_ (fun _ _ _ _ _ _ _ => rfl)
  refine go _ _ _ _ (.inr ⟨id, ck, by rw [y0l]; rfl, by rw [za4, if_pos rfl, y1u]; rfl, h1, h2⟩) hbn fun i hi => by rw [za4, if_neg (by omega)]
end
theorem zpn {o : List Int} {v : Nat} (h : v < o.length) : (o.map (AV.int .i64))[v]? = some (.int .i64 (gZ o v)) := by
 unfold gZ
 rw [y0d, y0b, y07 h]
 rfl
theorem gZ_at {o : List Int} {i : Nat} (h : i < o.length) : o[i] = gZ o i := by
 unfold gZ
 rw [y0b, y07 h]
 rfl
def b68_0 : IC := .seq (.region [oM 9 (.bin .lss (.t 8) (.t 7))] none)
 (.seq (.cond (.t 9) (.skip)
 (.exit 0))
 (.seq (.block 1 (.seq (.region [oT 10 8,
  oT 5 10] none)
 (.seq (.region [oT 11 1,
  oT 12 0,
  oT 13 5,
  oM 14 (.idxs 1 (.t 12) (.t 13)),
  oN 15 14,
  oM 16 (.bin .eql (.t 11) (.t 15))] none)
 (.cond (.t 16) (.seq (.region [oT 17 5,
  oT 4 17] none)
 (.ret))
 (.skip)))))
 (.region [oM 18 (.bin .add (.t 8) (.c (.int .i64 1))),
  oT 8 18] none)))
-- slices.Index[[]int,int]
def ic68 : IC := .seq (.region [oM 4 (.mov (.c (.int .i64 0)))] none)
 (.seq (.seq (.region [oT 6 0,
  oM 7 (.len false (.t 6)),
  oM 8 (.mov (.c (.int .i64 0)))] none)
 (.block 0 (.loop b68_0)))
 (.seq (.region [oM 4 (.mov (.c (.int .i64 (-1))))] none)
 (.ret)))
theorem fn68 : env0.fn 68 = some ⟨19, ic68, [.t 4]⟩ := by kernel_rfl
set_option maxHeartbeats 1000000 in
theorem index26 (a : List Int) (x : Int) (ha : a.length ≤ 1000000) : PF Try.prog 68 [vsI a, .int .i64 x] (.int .i64 (dnx (fun i => gZ a i == x) a.length 0)) := by
 have hva : (a.map fun z => ([.int .i64 z] : List AV)).length = a.length := y04 ..
 refine zaw env0_ok fn68 [(0, vsI a), (1, .int .i64 x)] (by show 2 ≤ 19; decide) rfl fun w0 N0 => ?_
 unfold ic68
 repeat (first | refine za7 ?_ | refine za0 rfl ?_ | refine za8 ?_ | refine za5 ?_ | refine zac ?_ | refine za1 rfl ?_ | refine zbl rfl rfl ?_)
 refine zb8 (fun mm S => ∃ i, mm = a.length - i ∧ i ≤ a.length ∧ dnx (fun i => gZ a i == x) a.length i = dnx (fun i => gZ a i == x) a.length 0 ∧ S = st 19 [(0, vsI a), (1, .int .i64 x), (7, .int .i64 (a.length : Nat)), (8, .int .i64 (i : Nat))] [] 0 0) a.length
  (za9 (.cons rfl (.cons rfl (.cons (by rw [← hva]; rfl) (.cons rfl .nil))))) ⟨0, rfl, y0s _, rfl, rfl⟩ ?_
 rintro mm S ⟨i, rfl, hi, hd, rfl⟩
 unfold b68_0
 repeat (first | refine za7 ?_ | refine za0 rfl ?_)
 refine zam rfl rfl rfl (fun h3 => ?_) fun h3 => ?_
 ·have hlt : i < a.length := y0x.1 (of_decide_eq_true h3)
  have w1 : IntKind.wrap .i64 (((i : Nat) : Int) + 1) = ((i + 1 : Nat) : Int) := zab i (by omega)
  have hg : (a.map fun z => ([.int .i64 z] : List AV))[((i : Nat) : Int).toNat]? = some [.int .i64 (gZ a i)] := by rw [ze5 hlt, gZ_at]
  rw [zpe hlt] at hd
  repeat (first | refine za7 ?_ | refine za0 rfl ?_ | refine za8 ?_ | refine za5 ?_ | refine zac ?_ | refine zae ?_ | refine zbz rfl ?_ | refine za1 rfl ?_ | refine zag rfl rfl ?_ | refine zb1 rfl rfl (by omega) (by assumption) rfl ?_)
  refine zam rfl rfl rfl (fun h4 => ?_) fun h4 => ?_
  ·have h4 : x = gZ a i := by simpa using h4
   rw [if_pos (by simp [h4])] at hd
   rw [← hd]
   repeat (first | refine za7 ?_ | refine za0 rfl ?_ | refine za8 ?_ | refine za5 ?_ | refine zbz rfl ?_ | refine zau ?_ | refine zak ?_ | refine zbf ?_ | refine za1 rfl ?_)
   exact zao ⟨.inr rfl, _, rfl, rfl⟩
  ·have h4 : ¬ x = gZ a i := by simpa using h4
   rw [if_neg (by simp; exact fun e => h4 e.symm)] at hd
   repeat (first | refine za0 rfl ?_ | refine za8 ?_ | refine za5 ?_ | refine zbd ?_ | refine zae ?_ | refine zbn rfl ?_ | refine za1 rfl ?_ | refine zav (op := .add) rfl rfl rfl ?_)
   rw [w1]
   exact zal (show a.length - (i + 1) < a.length - i by omega) (za9 (.cons rfl (.cons rfl (.cons rfl (.cons rfl .nil))))) ⟨i + 1, rfl, hlt, hd, rfl⟩
 ·have hi2 : i = a.length := by
   have : ¬ i < a.length := fun h => of_decide_eq_false h3 (y0x.2 h)
   omega
  subst hi2
  rw [ztg] at hd
  rw [← hd]
  repeat (first | refine za7 ?_ | refine za8 ?_ | refine za5 ?_ | refine zbn rfl ?_ | refine zbb ?_ | refine zad ?_)
  refine zby ?_
  repeat (first | refine za7 ?_ | refine za0 rfl ?_ | refine za8 ?_ | refine za5 ?_ | refine zau ?_ | refine zb7 ?_ | refine za1 rfl ?_)
  exact zao ⟨.inr rfl, _, rfl, rfl⟩
def b47_0 : IC := .seq (.seq (.region [oN 14 10,
  oT 15 2,
  oM 16 (.bin .neq (.t 14) (.t 15))] none)
 (.cond (.t 16) (.skip)
 (.exit 0)))
 (.seq (.block 1 (.seq (.region [oT 17 0,
  oN 18 10,
  oM 19 (.idxs 1 (.t 17) (.t 18)),
  oN 20 19,
  oT 21 0,
  oN 22 10,
  oM 23 (.idxs 1 (.t 21) (.t 22)),
  oN 24 23,
  oM 25 (.mkfn 69 [] [(.t 7), (.t 10)]),
  oM 26 (.call (.c (.fn 44 [] [])) [(.t 24), (.t 25)]),
  oM 27 (.idxs 1 (.t 20) (.t 26)),
  oN 28 27,
  ⟨none, .store 1 (.t 10) (.t 28), none⟩] (some [[], [], [0, 1], [2], [], [], [4, 5], [6], [], [7, 8], [3, 9], [10], [11, 9, 0, 1, 2, 3, 4, 5, 6, 7, 8, 9, 10, 11]]))
 (.region [oT 29 9,
  oN 30 10,
  oM 31 (.bslice 1 1 [.int .i64 0] [(0, 1, (.t 30))]),
  oM 32 (.append 1 8 [.int .i64 0] (.t 29) (.t 31)),
  oT 9 32] none)))
 (.seq (.region [oN 33 10] none)
 (.region [oM 10 (.alloc [.int .i64 0]),
  ⟨none, .store 1 (.t 10) (.t 33), none⟩] none)))
-- (pneumatic/digraph.net).led
def ic47 : IC := .seq (.region [oM 7 (.box (.t 3)),
  oM 8 (.mov (.c (.nils)))] none)
 (.seq (.region [oT 11 1,
  oM 12 (.bslice 1 1 [.int .i64 0] [(0, 1, (.t 11))]),
  oT 9 12] none)
 (.seq (.seq (.region [oT 13 1,
  oM 10 (.alloc [.int .i64 0]),
  ⟨none, .store 1 (.t 10) (.t 13), none⟩] none)
 (.block 0 (.loop b47_0)))
 (.seq (.region [oT 34 9,
  oT 8 34] none)
 (.ret))))
theorem fn47 : env0.fn 47 = some ⟨35, ic47, [.t 8]⟩ := by kernel_rfl
inductive Lq (b : Nat) (hp : List (Nat × Nat × AObj)) (nx : Nat) (q : List Int) : AV → Prop
 | lit {id sp : Nat} (a : Int) (hq : q = [a]) (hl : Am.look id hp = some (sp, .cells [.int .i64 a])) (hne : id ≠ b) (hn : id < nx) : Lq b hp nx q (.ms id sp 1 0 1 (some 1))
 | gen {id sp : Nat} (hl : Am.look id hp = some (sp, .cells (q.map (AV.int .i64)))) (hne : id ≠ b) (hn : id < nx) : Lq b hp nx q (.ms id sp 1 0 q.length none)
structure Vq (v : Int) (b sb : Nat) (q : List Int) (qv : AV) (hp : List (Nat × Nat × AObj)) (nx : Nat) : Prop where
 var : Am.look b hp = some (sb, .cells [.int .i64 v])
 bn : b < nx
 lst : Lq b hp nx q qv
theorem Lq.fresh {b nx : Nat} {hp : List (Nat × Nat × AObj)} {q : List Int} {qv : AV} (h : Lq b hp nx q qv) (ck : Nat) (x : AObj) : Lq b ((nx, ck, x) :: hp) (nx + 1) q qv := by
 cases h with
 | lit a hq hl hne hn => exact .lit a hq (by rw [za3, if_neg (by omega)]; exact hl) hne (by omega)
 | gen hl hne hn => exact .gen (by rw [za3, if_neg (by omega)]; exact hl) hne (by omega)
theorem Lq.other {b b' nx : Nat} {hp : List (Nat × Nat × AObj)} {q : List Int} {qv : AV} (h : Lq b hp nx q qv) (hb : nx ≤ b') : Lq b' hp nx q qv := by
 cases h with
 | lit a hq hl hne hn => exact .lit a hq hl (by omega) hn
 | gen hl hne hn => exact .gen hl (by omega) hn
theorem Lq.put {b nx : Nat} {hp : List (Nat × Nat × AObj)} {q : List Int} {qv : AV} (h : Lq b hp nx q qv) (x : Nat × AObj) : Lq b (zbu b x hp) nx q qv := by
 cases h with
 | lit a hq hl hne hn => exact .lit a hq (by rw [za4, if_neg (fun e => hne e.symm)]; exact hl) hne hn
 | gen hl hne hn => exact .gen (by rw [za4, if_neg (fun e => hne e.symm)]; exact hl) hne hn
theorem Vq.fresh {v : Int} {b sb nx : Nat} {hp : List (Nat × Nat × AObj)} {q : List Int} {qv : AV} (h : Vq v b sb q qv hp nx) (ck : Nat) (x : AObj) : Vq v b sb q qv ((nx, ck, x) :: hp) (nx + 1) :=
 ⟨by rw [za3, if_neg (by have := h.bn; omega)]; exact h.var, by have := h.bn; omega, h.lst.fresh ck x⟩
theorem Vq.set {v : Int} {b sb nx : Nat} {hp : List (Nat × Nat × AObj)} {q : List Int} {qv : AV} (h : Vq v b sb q qv hp nx) (w : Int) : Vq w b sb q qv (zbu b (sb, .cells [.int .i64 w]) hp) nx :=
 ⟨by rw [za4, if_pos rfl], h.bn, h.lst.put _⟩
theorem Lq.view {b nx d : Nat} {S : AS} {q : List Int} {qv : AV} (h : Lq b S.heap nx q qv) : S.view (d + 1) qv = vsI q := by
 cases h with
 | lit a hq hl hne hn => subst hq; exact zce [a] rfl hl
 | gen hl hne hn => exact zce q rfl hl
theorem o_lapp {w0 : World} {N0 n d nx ck : Nat} {k : List Fr} {Q : Exit → AS → Prop} {l : List (Nat × AV)} {ios : List Opr} {v : Int} {b sb : Nat} {q : List Int} {qv : AV} {hp : List (Nat × Nat × AObj)} {bytes j sj : Nat} {x0 : Int} {z : List AV} {s x : Arg} (hF : Vq v b sb q qv hp nx) (hlen : q.length ≤ 1000000) (hs : zb6 s l = some qv) (hx : zb6 x l = some (.ms j sj 1 0 1 (some 1))) (hj : Am.look j hp = some (sj, .cells [.int .i64 x0])) (hb : bytes ≤ 16777216)
  (go : ∀ qv' hp' nx' ck', Vq v b sb (q ++ [x0]) qv' hp' nx' → Om Try.prog w0 N0 none (KnP Try.prog w0 N0) ios (st n ((d, qv') :: l) hp' nx' ck') k Q) :
  Om Try.prog w0 N0 none (KnP Try.prog w0 N0) (⟨some d, .append 1 bytes z s x, none⟩ :: ios) (st n l hp nx ck) k Q := by
 have hel : (st n l hp nx ck []).elems 1 (.ms j sj 1 0 1 (some 1)) = some [[.int .i64 x0]] := zcv (xs := [[.int .i64 x0]]) (ys := []) hj rfl fun x hx => by obtain rfl := y0f.1 hx; rfl
 have hbn := hF.bn
 cases hF.lst with
 | @lit id sp a hq hl h1 hn =>
  subst hq
  have hi : iop (st n l hp nx ck) (.append 1 bytes z s x) = some (.ms nx ck 1 0 2 none, st n l ((nx, ck, .cells ([a, x0].map (AV.int .i64))) :: hp) (nx + 1) (ck + 1)) := by
   simp only [iop, zaq, hs, hx, hel]
   unfold zbg
   rw [if_neg (show ¬ [[AV.int .i64 x0]].length = 0 from y24 0), if_pos (show [[AV.int .i64 x0]].flatten.all AV.isCell = true ∧ bytes ≤ 16777216 from ⟨rfl, hb⟩)]
   simp only [show (st n l hp nx ck []).heap = hp from rfl, hl]
   rw [if_pos (show True ∧ True ∧ 0 + 1 * 1 ≤ ([AV.int .i64 a]).length ∧ 1 + [[AV.int .i64 x0]].length ≤ 1048576 from ⟨trivial, trivial, y0c 1, (by show 2 ≤ 1048576; decide)⟩), if_neg (show ¬ 1 + [[AV.int .i64 x0]].length ≤ 1 from (by show ¬ 2 ≤ 1; decide))]
   rfl
  refine zdt hi (go _ _ _ _ ⟨by rw [za3, if_neg (by omega)]; exact hF.var, by omega, ?_⟩) (fun _ _ _ _ _ _ _ => rfl)
  exact .gen (q := [a, x0]) zah (by omega) (by omega)
 | @gen id sp hl h1 hn =>
  refine zdq [[.int .i64 x0]] hs hx hel (fun h => Nat.noConfusion h) rfl hb hl (by rw [y04, Nat.mul_one]) (by show _ + 1 ≤ _; omega) ?_ (fun _ _ _ _ _ _ _ => rfl)
  refine go _ _ _ _ ⟨by rw [za4, if_neg h1]; exact hF.var, hbn, ?_⟩
  have e3 : q.map (AV.int .i64) ++ [[AV.int .i64 x0]].flatten = (q ++ [x0]).map (AV.int .i64) := by rw [y1u]; rfl
  rw [e3]
  have := Lq.gen (b := b) (hp := zbu id (ck, .cells ((q ++ [x0]).map (AV.int .i64))) hp) (nx := nx) (q := q ++ [x0]) (id := id) (sp := ck) (by rw [za4, if_pos rfl]) h1 hn
  rw [y0l] at this
  exact this
theorem view_cap {S : AS} {b sb d : Nat} {v : Int} (h : Am.look b S.heap = some (sb, .cells [.int .i64 v])) (hn : b < S.next) : S.view (d + 1) (.mptr b sb 0) = .vptr [.int .i64 v] := by
 simp only [AS.view, zhb (off := 0) (v := .int .i64 v) (ws := []) h hn rfl]
 cases d <;> rfl
def iL (l : List Nat) : List Int := l.map fun w => ((w : Nat) : Int)
set_option maxHeartbeats 4000000 in
theorem led49 (m : Nat) (hm : m ≤ 256) (E : List (Nat × Nat)) (hb : ∀ u v, (u, v) ∈ E → u < m ∧ v < m) (f t : Nat) (hf : f < m) (ht : t < m) (back : List Int) (hL : Lab (rvE E) m t back) (h0 : 0 ≤ gI back f) :
  PF Try.prog 47 [cN E m, .int .i64 (f : Nat), .int .i64 (t : Nat), vsI back] (vsI (iL (f :: zd7 E m back (gI back f).toNat f))) := by
 have hbt : ∀ v, gI back v < m := zmn hL.len hL.down
 have hlen : ((List.range m).map fun v => ([vN (nbr E m v)] : List AV)).length = m := by rw [y04, y0m]
 refine zaw env0_ok fn47 [(0, cN E m), (1, .int .i64 (f : Nat)), (2, .int .i64 (t : Nat)), (3, vsI back)] (by show 4 ≤ 35; decide) rfl fun w0 N0 => ?_
 unfold ic47
 refine zsr rfl (zd6 rfl rfl (za1 rfl (onu ?_)))
 refine zcc [] [(0, 0, [vsI back])] [(0, cN E m), (1, .int .i64 (f : Nat)), (2, .int .i64 (t : Nat)), (7, .vptr [vsI back])] rfl (.cons rfl rfl .nil) .nil (.cons rfl (.same rfl) (.cons rfl (.same rfl) (.cons rfl (.same rfl) (.cons rfl (.fptr rfl rfl) .nil)))) ?_
 repeat (first | refine za7 ?_ | refine za0 rfl ?_ | refine za8 ?_ | refine za5 ?_ | refine zac ?_ | refine za1 rfl ?_ | refine zci rfl rfl rfl rfl rfl rfl rfl ?_ | refine zcp ?_ | refine zbi rfl rfl ?_)
 have hK : (iL (f :: zd7 E m back (gI back f).toNat f)).length ≤ 257 := by
  have := hbt f
  unfold iL
  rw [y04, y0r, zgh]
  omega
 generalize hT : iL (f :: zd7 E m back (gI back f).toNat f) = T at *
 refine zb8 (fun mm S => ∃ v q qv b sb hp nx ck, mm = (gI back v).toNat ∧ v < m ∧ 0 ≤ gI back v ∧ q ++ iL (zd7 E m back (gI back v).toNat v) = T ∧ Vq (v : Nat) b sb q qv hp nx ∧ S = st 35 [(0, cN E m), (2, .int .i64 (t : Nat)), (7, .vptr [vsI back]), (9, qv), (10, .mptr b sb 0)] hp nx ck) (gI back f).toNat
  (za9 (.cons rfl (.cons rfl (.cons rfl (.cons rfl (.cons rfl .nil)))))) ⟨f, [(f : Nat)], .ms 0 1 1 0 1 (some 1), 1, 2, _, _, _, rfl, hf, h0, hT, ⟨rfl, y0q 1, .lit _ rfl rfl (by decide) (by decide)⟩, rfl⟩ ?_
 rintro mm S ⟨v, q, qv, b, sb, hp, nx, ck, rfl, hv, h1, hq, hF, rfl⟩
 have hql : q.length ≤ 257 := by
  rw [← hq, y0l] at hK
  omega
 unfold b47_0
 repeat (first | refine za7 ?_ | refine za0 rfl ?_)
 refine zap (id := b) (sp := sb) (off := 0) rfl hF.var hF.bn rfl ?_
 repeat (first | refine za1 rfl ?_)
 refine zam rfl rfl rfl (fun h3 => ?_) fun h3 => ?_
 ·have hne : ¬ ((v : Nat) : Int) = ((t : Nat) : Int) := by simpa using h3
  have hpos : 0 < gI back v := by
   have : gI back v ≠ 0 := fun e => hne (by rw [hL.root v e])
   omega
  obtain ⟨hfi, hed, hwm, hbw⟩ := nxt_ok hL hb hpos
  obtain ⟨kk, hkl, hke, hkp, hkn⟩ := zpk hfi
  have hrs : zd7 E m back (gI back v).toNat v = nxt E m back v :: zd7 E m back (gI back (nxt E m back v)).toNat (nxt E m back v) := by
   obtain ⟨k, hk⟩ : ∃ k : Nat, gI back v = ((k + 1 : Nat) : Int) := ⟨(gI back v).toNat - 1, by omega⟩
   have e1 : (gI back v).toNat = k + 1 := by omega
   have e2 : (gI back (nxt E m back v)).toNat = k := by omega
   rw [e1, e2, zd7]
  have hnl : (nbr E m v).length ≤ m := by
   unfold nbr
   exact y0w (y1m ..) (by rw [y0m]; exact y0c _)
  have p66 := index66 back (nbr E m v) v (by omega) (fun w hw => by rw [hL.len]; exact (hb _ _ ((zbx fun u v h => (hb u v h).2).1 hw)).2) (by rw [hL.len]; exact hv) (hL.low v) (by have := hbt v; omega) kk hkl (by rw [hke]; exact hkp) hkn
  have hgN : ((List.range m).map fun v => ([vN (nbr E m v)] : List AV))[((v : Nat) : Int).toNat]? = some [vN (nbr E m v)] := by
   rw [y0t, y0d, y1c hv]
   rfl
  have hgk := zk8 hkl
  rw [hke] at hgk
  generalize nxt E m back v = w at *
  generalize nbr E m v = l at *
  have hldb : Nat.beq b b = true := y2a b
  have hvw : ∀ L : List (Nat × AV), [vN l, .fn 69 [] [.vptr [vsI back], .mptr b sb 0]].map ((st 35 L hp nx ck []).view VD) = [vN l, .fn 69 [] [.vptr [vsI back], .vptr [.int .i64 (v : Nat)]]] := fun L => by
   show [vN l, AV.fn 69 [] [.vptr [vsI back], (st 35 L hp nx ck []).view 3 (.mptr b sb 0)]] = _
   rw [view_cap hF.var hF.bn]
  repeat (first | refine za7 ?_ | refine za8 ?_ | refine za5 ?_ | refine zac ?_ | refine zae ?_ | refine zbz rfl ?_)
  refine z_cut env0_ok 12 [(44, [vN l, .fn 69 [] [.vptr [vsI back], .vptr [.int .i64 (v : Nat)]]], .int .i64 (kk : Nat))] (fun x hx => by
   obtain rfl := y0f.1 hx
   exact p66) (fun f => Nat.beq f 44) (fun i => Nat.beq i b) (fun i => !(Nat.beq i b)) (fun i h1 h2 => by rw [h1] at h2; cases h2) rfl rfl rfl rfl ?_
  show Om _ _ _ _ _ [_, _, _, _, _, _, _, _, _, _, _, _] _ _ _
  refine za1 rfl ?_
  refine zap (id := b) (sp := sb) (off := 0) rfl hF.var hF.bn rfl ?_ (zoa rfl hldb)
  refine zb1 rfl rfl (y0y v) hgN rfl ?_
  refine zag rfl rfl ?_
  refine za1 rfl ?_
  refine zap (id := b) (sp := sb) (off := 0) rfl hF.var hF.bn rfl ?_ (zoa rfl hldb)
  refine zb1 rfl rfl (y0y v) hgN rfl ?_
  refine zag rfl rfl ?_
  refine zv5 rfl rfl ?_
  refine zat rfl (hvw _) ze9 (fun _ => rfl) ?_
  refine zb1 rfl rfl (y0y kk) hgk rfl ?_
  refine zag rfl rfl ?_
  refine za8 (zao ⟨rfl, fun rd => ?_⟩)
  refine AnyF.one 12 rfl (zlv (i := 12) rfl (zgr (id := b) (sp := sb) (off := 0) rfl rfl rfl rfl hF.var rfl rfl) ?_)
  have hF2 : Vq (w : Nat) b sb q qv (zbu b (sb, .cells [.int .i64 (w : Nat)]) hp) nx := hF.set _
  refine AnyF.fin rfl (Um.ok (za5 ?_))
  repeat (first | refine za0 rfl ?_ | refine za1 rfl ?_)
  refine zap (id := b) (sp := sb) (off := 0) rfl hF2.var hF2.bn rfl ?_
  repeat (first | refine zbi rfl rfl ?_)
  have hF3 := hF2.fresh ck (.cells [.int .i64 (w : Nat)])
  refine o_lapp hF3 (by omega) rfl rfl zah (by decide) fun qv' hp' nx' ck' hF4 => ?_
  repeat (first | refine za7 ?_ | refine za0 rfl ?_ | refine za8 ?_ | refine za5 ?_ | refine zbd ?_ | refine za1 rfl ?_)
  refine zap (id := b) (sp := sb) (off := 0) rfl hF4.var hF4.bn rfl ?_
  repeat (first | refine za0 rfl ?_ | refine za8 ?_ | refine za5 ?_ | refine zcp ?_)
  refine zci (id := nx') (sp := ck') (off := 0) rfl rfl rfl rfl zah rfl rfl ?_
  repeat (first | refine za8 ?_)
  refine zal (show (gI back w).toNat < (gI back v).toNat by omega) (za9 (.cons rfl (.cons rfl (.cons rfl (.cons rfl (.cons rfl .nil)))))) ⟨w, q ++ [((w : Nat) : Int)], qv', nx', ck', _, _, _, rfl, hwm, by omega, ?_, ⟨by rw [za4, if_pos rfl]; rfl, y0q _, ?_⟩, rfl⟩
  ·rw [← hq, hrs, y26]
   rfl
  ·exact ((hF4.lst.other (y0c _)).fresh ck' (.cells [.int .i64 0])).put _
 ·have hvt : ((v : Nat) : Int) = ((t : Nat) : Int) := by simpa using h3
  have hv2 : v = t := Int.ofNat_inj.1 hvt
  subst hv2
  rw [hL.zero] at hq
  have hq : q = T := by simpa [zd7, iL] using hq
  repeat (first | refine za8 ?_ | refine za5 ?_ | refine zbn rfl ?_ | refine zbb ?_ | refine zad ?_)
  refine zby ?_
  repeat (first | refine za7 ?_ | refine za0 rfl ?_ | refine za8 ?_ | refine za5 ?_ | refine zau ?_ | refine zb7 ?_ | refine za1 rfl ?_)
  refine zao ⟨.inr rfl, _, rfl, ?_⟩
  rw [← hq]
  exact hF.lst.view
def b45_2 : IC := .seq (.region [oM 25 (.bin .lss (.t 24) (.t 23))] none)
 (.seq (.cond (.t 25) (.skip)
 (.exit 2))
 (.seq (.block 3 (.seq (.region [oM 26 (.idxs 1 (.t 22) (.t 24)),
  oN 27 26,
  oT 8 27] none)
 (.region [oT 28 4,
  oT 29 8,
  oM 30 (.idxs 1 (.t 28) (.t 29)),
  oN 31 30,
  oM 32 (.bin .add (.t 31) (.c (.int .i64 1))),
  oM 33 (.idxs 1 (.t 28) (.t 29)),
  ⟨none, .store 1 (.t 33) (.t 32), none⟩] none)))
 (.region [oM 34 (.bin .add (.t 24) (.c (.int .i64 1))),
  oT 24 34] none)))
def b45_0 : IC := .seq (.region [oM 19 (.bin .lss (.t 18) (.t 17))] none)
 (.seq (.cond (.t 19) (.skip)
 (.exit 0))
 (.seq (.block 1 (.seq (.region [oM 20 (.idxs 1 (.t 16) (.t 18)),
  oN 21 20,
  oT 6 21] none)
 (.seq (.region [oT 22 6,
  oM 23 (.len false (.t 22)),
  oM 24 (.mov (.c (.int .i64 0)))] none)
 (.block 2 (.loop b45_2)))))
 (.region [oM 35 (.bin .add (.t 18) (.c (.int .i64 1))),
  oT 18 35] none)))
def b45_6 : IC := .seq (.region [oM 58 (.bin .lss (.t 57) (.t 56))] none)
 (.seq (.cond (.t 58) (.skip)
 (.exit 6))
 (.seq (.block 7 (.seq (.region [oM 59 (.idxs 1 (.t 55) (.t 57)),
  oN 60 59,
  oT 12 60] none)
 (.region [oT 61 4,
  oT 62 12,
  oM 63 (.idxs 1 (.t 61) (.t 62)),
  oN 64 63,
  oM 65 (.bin .sub (.t 64) (.c (.int .i64 1))),
  oM 66 (.idxs 1 (.t 61) (.t 62)),
  ⟨none, .store 1 (.t 66) (.t 65), none⟩] none)))
 (.region [oM 67 (.bin .add (.t 57) (.c (.int .i64 1))),
  oT 57 67] none)))
def b45_4 : IC := .seq (.seq (.region [oT 36 9,
  oM 37 (.len false (.t 36)),
  oT 38 0,
  oM 39 (.len false (.t 38)),
  oM 40 (.bin .lss (.t 37) (.t 39))] none)
 (.cond (.t 40) (.skip)
 (.exit 4)))
 (.block 5 (.seq (.region [oT 41 4,
  oM 42 (.call (.c (.fn 68 [] [])) [(.t 41), (.c (.int .i64 0))]),
  oT 10 42] none)
 (.seq (.seq (.region [oT 43 10,
  oM 44 (.bin .lss (.t 43) (.c (.int .i64 0)))] none)
 (.cond (.t 44) (.seq (.region [oM 2 (.mov (.c (.nils))),
  oM 3 (.mov (.c (.bool false)))] none)
 (.ret))
 (.skip)))
 (.seq (.region [oT 45 4,
  oT 46 10,
  oM 47 (.idxs 1 (.t 45) (.t 46)),
  ⟨none, .store 1 (.t 47) (.c (.int .i64 (-1))), none⟩] none)
 (.seq (.region [oT 48 9,
  oT 49 10,
  oM 50 (.bslice 1 1 [.int .i64 0] [(0, 1, (.t 49))]),
  oM 51 (.append 1 8 [.int .i64 0] (.t 48) (.t 50)),
  oT 9 51] none)
 (.seq (.region [oT 52 0,
  oT 53 10,
  oM 54 (.idxs 1 (.t 52) (.t 53)),
  oN 55 54,
  oM 56 (.len false (.t 55)),
  oM 57 (.mov (.c (.int .i64 0)))] none)
 (.block 6 (.loop b45_6))))))))
-- (pneumatic/digraph.net).sorted
def ic45 : IC := .seq (.region [oM 2 (.mov (.c (.nils))),
  oM 3 (.mov (.c (.bool false)))] none)
 (.seq (.region [oT 13 0,
  oM 14 (.len false (.t 13)),
  oM 15 (.mkslice 1 8 [.int .i64 0] (.t 14) (.t 14)),
  oT 4 15] none)
 (.seq (.seq (.region [oT 16 0,
  oM 17 (.len false (.t 16)),
  oM 18 (.mov (.c (.int .i64 0)))] none)
 (.block 0 (.loop b45_0)))
 (.seq (.region [oM 9 (.mov (.c (.nils)))] none)
 (.seq (.block 4 (.loop b45_4))
 (.seq (.region [oT 68 9,
  oT 2 68,
  oM 3 (.mov (.c (.bool true)))] none)
 (.ret))))))
theorem fn45 : env0.fn 45 = some ⟨69, ic45, [.t 2, .t 3]⟩ := by kernel_rfl
def srtV (E : List (Nat × Nat)) (m : Nat) : AV := match zlq E m m [] with
 | some l => .tup [vsI (iL l), .bool true]
 | none => .tup [.vs [], .bool false]
def nxV : Option Nat → Int
 | some u => (u : Nat)
 | none => -1
theorem zf7 {α β : Type} (f : β → α → β) (o : β) {l : List α} {i : Nat} (h : i < l.length) : (l.take (i + 1)).foldl f o = f ((l.take i).foldl f o) l[i] := by
 rw [y2b, y07 h, y1y]
 rfl
theorem zl8 (E : List (Nat × Nat)) (m v : Nat) : (nbr E m v).length ≤ m := by
 unfold nbr
 exact y0w (y1m ..) (by rw [y0m]; exact y0c _)
theorem zp7 {E : List (Nat × Nat)} {m v : Nat} (hv : v < m) : ((List.range m).map fun v => ([vN (nbr E m v)] : List AV))[((v : Nat) : Int).toNat]? = some [vN (nbr E m v)] := by
 rw [y0t, y0d, y1c hv]
 rfl
theorem zwb {l : List Nat} (h : l.Nodup) (i : Nat) : (l.take i).Nodup := (List.take_sublist i l).nodup h
theorem zh4 (l : List Nat) : (iL l).length = l.length := y04 ..
theorem iL_snoc (l : List Nat) (v : Nat) : iL (l ++ [v]) = iL l ++ [((v : Nat) : Int)] := by
 unfold iL
 rw [y1u]
 rfl
theorem zn0 (m : Nat) : AObj.cells (zed m [AV.int .i64 0]) = .cells ((List.replicate m (0 : Int)).map (AV.int .i64)) := by
 rw [zk2]
 congr 1
 refine y2t (by simp) fun i h1 h2 => ?_
 simp
set_option maxHeartbeats 8000000 in
theorem sorted50 (m : Nat) (hm : m ≤ 256) (E : List (Nat × Nat)) (hb : ∀ u v, (u, v) ∈ E → u < m ∧ v < m) : PF Try.prog 45 [cN E m] (srtV E m) := by
 have ez : ∀ o : Nat, 0 + ((o : Nat) : Int).toNat * 1 = o := fun o => by simp
 have hb2 := fun u v h => (hb u v h).2
 have hlen : ((List.range m).map fun v => ([vN (nbr E m v)] : List AV)).length = m := by rw [y04, y0m]
 refine zaw env0_ok fn45 [(0, cN E m)] (by show 1 ≤ 69; decide) rfl fun w0 N0 => ?_
 unfold ic45
 refine zcc [] [] [(0, cN E m)] rfl .nil .nil (.cons rfl (.same rfl) .nil) ?_
 repeat (first | refine za7 ?_ | refine za0 rfl ?_ | refine za8 ?_ | refine za5 ?_ | refine za1 rfl ?_ | refine zbl rfl rfl ?_)
 rw [hlen]
 refine o_mks rfl rfl ⟨y0y m, y1e _, by omega, by decide⟩ ?_
 repeat (first | refine za7 ?_ | refine za0 rfl ?_ | refine za8 ?_ | refine za5 ?_ | refine zac ?_ | refine za1 rfl ?_ | refine zbl rfl rfl ?_)
 refine zb8 (fun mm S => ∃ i op hp nx ck, mm = m - i ∧ i ≤ m ∧ op.length = m ∧ (∀ v, v < m → gZ op v = (cntI E i v : Nat)) ∧ 0 < nx ∧ Am.look 0 hp = some (1, .cells (op.map (AV.int .i64))) ∧ S = st 69 [(0, cN E m), (4, .ms 0 1 1 0 m (some m)), (16, cN E m), (17, .int .i64 (m : Nat)), (18, .int .i64 (i : Nat))] hp nx ck) m
  (za9 (.cons rfl (.cons rfl (.cons rfl (.cons (by exact congrArg (fun z : Nat => some (AV.int .i64 (z : Nat))) hlen) (.cons rfl .nil)))))) ⟨0, List.replicate m 0, _, _, _, rfl, y0s _, y1j .., fun v _ => gZ_rep m v, Nat.zero_lt_one, by rw [← zn0]; rfl, rfl⟩ ?_
 ·rintro mm S ⟨i, op, hp, nx, ck, rfl, hi, hol, hcnt, hnx, hk, rfl⟩
  unfold b45_0
  repeat (first | refine za7 ?_ | refine za0 rfl ?_)
  refine zam rfl rfl rfl (fun h3 => ?_) fun h3 => ?_
  ·have hlt : i < m := y0x.1 (of_decide_eq_true h3)
   have w1 : IntKind.wrap .i64 (((i : Nat) : Int) + 1) = ((i + 1 : Nat) : Int) := zab i (by omega)
   have hgN := zp7 (E := E) hlt
   have hnl := zl8 E m i
   have hin : ∀ w ∈ nbr E m i, w < m := fun w hw => hb2 _ _ ((zbx hb2).1 hw)
   have hst := fun j => addF 1 op ((nbr E m i).take j) (zwb (ziz E m i) j) fun w hw => by rw [hol]; exact hin w (y1q hw)
   have hfin : ∀ op', AddF 1 (nbr E m i) op op' → op'.length = m ∧ ∀ v, v < m → gZ op' v = (cntI E (i + 1) v : Nat) := fun op' h => ⟨h.len.trans hol, fun v hv => by
    rw [h.at_, hcnt v hv, zt3]
    by_cases c : (i, v) ∈ E
    ·rw [if_pos ((zbx hb2).2 c), if_pos c]; omega
    ·rw [if_neg fun c2 => c ((zbx hb2).1 c2), if_neg c]; omega⟩
   have hcl : ∀ v, v < m → 0 ≤ gZ op v ∧ gZ op v ≤ m := fun v hv => by rw [hcnt v hv]; have := cntI_le E i v; omega
   generalize nbr E m i = l at *
   repeat (first | refine za7 ?_ | refine za0 rfl ?_ | refine za8 ?_ | refine za5 ?_ | refine zac ?_ | refine zae ?_ | refine zbz rfl ?_ | refine za1 rfl ?_ | refine zag rfl rfl ?_ | refine zbl rfl rfl ?_ | refine zb1 rfl rfl (by omega) (by assumption) rfl ?_)
   refine zb8 (fun mm S => ∃ j hp, mm = l.length - j ∧ j ≤ l.length ∧ Am.look 0 hp = some (1, .cells (((l.take j).foldl (zlu 1) op).map (AV.int .i64))) ∧ S = st 69 [(0, cN E m), (4, .ms 0 1 1 0 m (some m)), (16, cN E m), (17, .int .i64 (m : Nat)), (18, .int .i64 (i : Nat)), (22, vN l), (23, .int .i64 ((l.map fun w => ([.int .i64 (w : Nat)] : List AV)).length : Nat)), (24, .int .i64 (j : Nat))] hp nx ck) l.length
    (za9 (.cons rfl (.cons rfl (.cons rfl (.cons rfl (.cons rfl (.cons rfl (.cons rfl (.cons rfl .nil))))))))) ⟨0, _, rfl, y0s _, hk, rfl⟩ ?_
   rintro mm S ⟨j, hp, rfl, hj, hk, rfl⟩
   have hs := hst j
   have hol2 : ((l.take j).foldl (zlu 1) op).length = m := hs.len.trans hol
   unfold b45_2
   repeat (first | refine za7 ?_ | refine za0 rfl ?_)
   refine zam rfl rfl rfl (fun h4 => ?_) fun h4 => ?_
   ·have hlt2 : j < l.length := by
     have h5 : ((j : Nat) : Int) < (((l.map fun w => ([.int .i64 (w : Nat)] : List AV)).length : Nat) : Int) := of_decide_eq_true h4
     rw [y04] at h5
     exact y0x.1 h5
    have w2 : IntKind.wrap .i64 (((j : Nat) : Int) + 1) = ((j + 1 : Nat) : Int) := zab j (by omega)
    have hgv := zk8 hlt2
    have hxm := hin l[j] (y0z hlt2)
    have hx : gZ ((l.take j).foldl (zlu 1) op) l[j] ≤ m + 1 ∧ 0 ≤ gZ ((l.take j).foldl (zlu 1) op) l[j] := by
     rw [hs.at_]
     have := hcl _ hxm
     split <;> omega
    have hts := zf7 (zlu 1) op hlt2
    generalize (l.take j).foldl (zlu 1) op = o at *
    generalize l[j] = x at *
    have w3 : IntKind.wrap .i64 (gZ o x + 1) = gZ o x + 1 := zd8 _ (by omega) (by omega)
    repeat (first | refine za7 ?_ | refine za0 rfl ?_ | refine za8 ?_ | refine za5 ?_ | refine zac ?_ | refine zae ?_ | refine zbz rfl ?_ | refine za1 rfl ?_ | refine zag rfl rfl ?_ | refine zb1 rfl rfl (by omega) (by assumption) rfl ?_ | refine zax rfl rfl (by omega) (by omega) ?_)
    rw [ez]
    refine zap (id := 0) (sp := 1) (off := x) rfl hk hnx (zpn (by omega)) ?_
    repeat (first | refine zav (op := .add) rfl rfl rfl ?_ | refine zax rfl rfl (by omega) (by omega) ?_)
    rw [ez, w3]
    refine zbj (id := 0) (sp := 1) (off := x) rfl rfl rfl hk (by simp; omega) rfl ?_
    repeat (first | refine za0 rfl ?_ | refine za8 ?_ | refine za5 ?_ | refine zbd ?_ | refine za1 rfl ?_ | refine zav (op := .add) rfl rfl rfl ?_)
    rw [w2]
    exact zal (show l.length - (j + 1) < l.length - j by omega) (za9 (.cons rfl (.cons rfl (.cons rfl (.cons rfl (.cons rfl (.cons rfl (.cons rfl (.cons rfl .nil))))))))) ⟨j + 1, _, rfl, hlt2, by rw [za4, if_pos rfl, ← List.map_set, hts]; rfl, rfl⟩
   ·have hje : j = l.length := by
     have h5 : ¬ ((j : Nat) : Int) < (((l.map fun w => ([.int .i64 (w : Nat)] : List AV)).length : Nat) : Int) := of_decide_eq_false h4
     rw [y04] at h5
     omega
    subst hje
    rw [y1f] at hs hk
    obtain ⟨a1, a2⟩ := hfin _ hs
    repeat (first | refine za7 ?_ | refine za8 ?_ | refine za5 ?_ | refine zbn rfl ?_ | refine zbb ?_ | refine zad ?_)
    refine zby ?_
    repeat (first | refine za0 rfl ?_ | refine za8 ?_ | refine za5 ?_ | refine zbd ?_ | refine zb7 ?_ | refine za1 rfl ?_ | refine zav (op := .add) rfl rfl rfl ?_)
    rw [w1]
    exact zal (show m - (i + 1) < m - i by omega) (za9 (.cons rfl (.cons rfl (.cons rfl (.cons rfl (.cons rfl .nil)))))) ⟨i + 1, _, _, _, _, rfl, hlt, a1, a2, hnx, hk, rfl⟩
  ·have hie : i = m := by
    have h4 : ¬ ((i : Nat) : Int) < ((m : Nat) : Int) := of_decide_eq_false h3
    omega
   subst hie
   repeat (first | refine za7 ?_ | refine za8 ?_ | refine za5 ?_ | refine zbn rfl ?_ | refine zbb ?_ | refine zad ?_)
   refine zby ?_
   repeat (first | refine za7 ?_ | refine za0 rfl ?_ | refine za8 ?_ | refine za5 ?_ | refine zac ?_ | refine zb7 ?_ | refine za1 rfl ?_)
   refine zb8 (fun mm S => ∃ out op w hp nx ck, mm = i - out.length ∧ out.length ≤ i ∧ Top E i out ∧ zlq E i (i - out.length) out = zlq E i i [] ∧ Opn E i out op ∧ 0 < nx ∧ Am.look 0 hp = some (1, .cells (op.map (AV.int .i64))) ∧ Gv 0 (iL out) w hp nx ∧ S = st 69 [(0, cN E i), (4, .ms 0 1 1 0 i (some i)), (9, w)] hp nx ck) i
    (za9 (.cons rfl (.cons rfl (.cons rfl .nil)))) ⟨[], op, .nils, _, _, _, rfl, y0s _, Top.nil E i, rfl, Opn.start hol hcnt, hnx, hk, .inl ⟨rfl, rfl⟩, rfl⟩ ?_
   rintro mm S ⟨out, op, w, hp, nx, ck, rfl, hol, hT, hS, hO, hnx, hk, hG, rfl⟩
   unfold b45_4
   repeat (first | refine za7 ?_ | refine za0 rfl ?_ | refine za1 rfl ?_)
   refine o_glen hG rfl ?_
   repeat (first | refine za1 rfl ?_ | refine zbl rfl rfl ?_)
   rw [zh4, hlen]
   refine zam rfl rfl rfl (fun h3 => ?_) fun h3 => ?_
   ·have hlt : out.length < i := y0x.1 (of_decide_eq_true h3)
    have p26 := index26 op 0 (by have := hO.len; omega)
    rw [show dnx (fun i => gZ op i == 0) op.length 0 = nxV (nxS E i out) from by
     unfold dnx
     rw [y2w, hO.find hb]
     unfold nxV
     rfl] at p26
    rw [show i - out.length = (i - out.length - 1) + 1 by omega, zlq] at hS
    repeat (first | refine za7 ?_ | refine za0 rfl ?_ | refine za8 ?_ | refine za5 ?_ | refine zac ?_ | refine zae ?_ | refine zbz rfl ?_ | refine za1 rfl ?_)
    refine zat rfl (zf1 (zce (d := 3) op hO.len hk) rfl) p26 (fun _ => rfl) ?_
    repeat (first | refine za7 ?_ | refine za0 rfl ?_ | refine za8 ?_ | refine za5 ?_ | refine za1 rfl ?_)
    cases hx : nxS E i out with
    | none =>
     rw [hx] at hS
     have hV : srtV E i = .tup [.vs [], .bool false] := by unfold srtV; rw [← hS]
     rw [hV]
     refine zjx rfl rfl rfl ?_
     repeat (first | refine za7 ?_ | refine za0 rfl ?_ | refine za8 ?_ | refine za5 ?_ | refine zbz rfl ?_ | refine zau ?_ | refine zak ?_ | refine zbf ?_ | refine za1 rfl ?_)
     exact zao ⟨.inr rfl, _, rfl, rfl⟩
    | some x =>
    rw [hx] at hS
    obtain ⟨hxm, _, _⟩ := zv2 hx
    have hT2 := hT.snoc hx
    have hO2 := hO.step hb hT hx
    have hgN := zp7 (E := E) hxm
    have hnl := zl8 E i x
    have hin : ∀ w ∈ nbr E i x, w < i := fun w hw => hb2 _ _ ((zbx hb2).1 hw)
    have hst := fun j => addF (-1) (op.set x (-1)) ((nbr E i x).take j) (zwb (ziz E i x) j) fun w hw => by rw [y1n, hO.len]; exact hin w (y1q hw)
    have hcl : ∀ v, v < i → -1 ≤ gZ (op.set x (-1)) v ∧ gZ (op.set x (-1)) v ≤ i := fun v hv => by
     rw [zmf (by rw [hO.len]; exact hxm)]
     split
     ·omega
     ·by_cases c : v ∈ out
      ·rw [hO.gone v c]; omega
      ·rw [hO.cnt v hv c]; have := cntO_le E i out v; omega
    generalize nbr E i x = l at *
    rw [show nxV (some x) = ((x : Nat) : Int) from rfl]
    refine zdc rfl rfl (by show some (AV.bool (decide (((x : Nat) : Int) < 0))) = _; rw [decide_eq_false (by omega)]) ?_
    repeat (first | refine za7 ?_ | refine za0 rfl ?_ | refine za8 ?_ | refine za5 ?_ | refine zae ?_ | refine zbn rfl ?_ | refine za1 rfl ?_ | refine zax rfl rfl (by omega) (by omega) ?_)
    rw [ez]
    refine zbj (id := 0) (sp := 1) (off := x) rfl rfl rfl hk (by simp; have := hO.len; omega) rfl ?_
    rw [← List.map_set]
    have hG2 := (hG.put (y0c 0) (1, .cells ((op.set x (-1)).map (AV.int .i64)))).fresh ck (.cells [.int .i64 (x : Nat)])
    repeat (first | refine za7 ?_ | refine za0 rfl ?_ | refine za8 ?_ | refine za5 ?_ | refine za1 rfl ?_ | refine zbi rfl rfl ?_)
    refine o_gapp hG2 (Nat.succ_pos _) (by rw [zh4]; omega) rfl rfl zah (by decide) fun w2 hp2 nx2 ck2 hG3 hnx2 hkp => ?_
    rw [← iL_snoc] at hG3
    have hk2 := hkp 0 (y0c 0)
    rw [za3, if_neg (by omega), za4, if_pos rfl] at hk2
    repeat (first | refine za7 ?_ | refine za0 rfl ?_ | refine za8 ?_ | refine za5 ?_ | refine zac ?_ | refine za1 rfl ?_ | refine zag rfl rfl ?_ | refine zbl rfl rfl ?_ | refine zb1 rfl rfl (by omega) (by assumption) rfl ?_)
    refine zb8 (fun mm S => ∃ j hp, mm = l.length - j ∧ j ≤ l.length ∧ Am.look 0 hp = some (1, .cells (((l.take j).foldl (zlu (-1)) (op.set x (-1))).map (AV.int .i64))) ∧ Gv 0 (iL (out ++ [x])) w2 hp nx2 ∧ S = st 69 [(0, cN E i), (4, .ms 0 1 1 0 i (some i)), (9, w2), (55, vN l), (56, .int .i64 ((l.map fun w => ([.int .i64 (w : Nat)] : List AV)).length : Nat)), (57, .int .i64 (j : Nat))] hp nx2 ck2) l.length
     (za9 (.cons rfl (.cons rfl (.cons rfl (.cons rfl (.cons rfl (.cons rfl .nil))))))) ⟨0, _, rfl, y0s _, hk2, hG3, rfl⟩ ?_
    rintro mm S ⟨j, hp, rfl, hj, hk, hG, rfl⟩
    have hs := hst j
    have hol2 : ((l.take j).foldl (zlu (-1)) (op.set x (-1))).length = i := by rw [hs.len, y1n]; exact hO.len
    unfold b45_6
    repeat (first | refine za7 ?_ | refine za0 rfl ?_)
    refine zam rfl rfl rfl (fun h4 => ?_) fun h4 => ?_
    ·have hlt2 : j < l.length := by
      have h5 : ((j : Nat) : Int) < (((l.map fun w => ([.int .i64 (w : Nat)] : List AV)).length : Nat) : Int) := of_decide_eq_true h4
      rw [y04] at h5
      exact y0x.1 h5
     have w2 : IntKind.wrap .i64 (((j : Nat) : Int) + 1) = ((j + 1 : Nat) : Int) := zab j (by omega)
     have hgv := zk8 hlt2
     have hym := hin l[j] (y0z hlt2)
     have hy : -2 ≤ gZ ((l.take j).foldl (zlu (-1)) (op.set x (-1))) l[j] ∧ gZ ((l.take j).foldl (zlu (-1)) (op.set x (-1))) l[j] ≤ i := by
      rw [hs.at_]
      have := hcl _ hym
      split <;> omega
     have hts := zf7 (zlu (-1)) (op.set x (-1)) hlt2
     generalize (l.take j).foldl (zlu (-1)) (op.set x (-1)) = o at *
     generalize l[j] = y at *
     have w3 : IntKind.wrap .i64 (gZ o y - 1) = gZ o y + -1 := zd8 _ (by omega) (by omega)
     repeat (first | refine za7 ?_ | refine za0 rfl ?_ | refine za8 ?_ | refine za5 ?_ | refine zac ?_ | refine zae ?_ | refine zbz rfl ?_ | refine za1 rfl ?_ | refine zag rfl rfl ?_ | refine zb1 rfl rfl (by omega) (by assumption) rfl ?_ | refine zax rfl rfl (by omega) (by omega) ?_)
     rw [ez]
     refine zap (id := 0) (sp := 1) (off := y) rfl hk hnx2 (zpn (by omega)) ?_
     repeat (first | refine zav (op := .sub) rfl rfl rfl ?_ | refine zax rfl rfl (by omega) (by omega) ?_)
     rw [ez, w3]
     refine zbj (id := 0) (sp := 1) (off := y) rfl rfl rfl hk (by simp; omega) rfl ?_
     repeat (first | refine za0 rfl ?_ | refine za8 ?_ | refine za5 ?_ | refine zbd ?_ | refine za1 rfl ?_ | refine zav (op := .add) rfl rfl rfl ?_)
     rw [w2]
     exact zal (show l.length - (j + 1) < l.length - j by omega) (za9 (.cons rfl (.cons rfl (.cons rfl (.cons rfl (.cons rfl (.cons rfl .nil))))))) ⟨j + 1, _, rfl, hlt2, by rw [za4, if_pos rfl, ← List.map_set, hts]; rfl, hG.put (y0c 0) _, rfl⟩
    ·have hje : j = l.length := by
      have h5 : ¬ ((j : Nat) : Int) < (((l.map fun w => ([.int .i64 (w : Nat)] : List AV)).length : Nat) : Int) := of_decide_eq_false h4
      rw [y04] at h5
      omega
     subst hje
     rw [y1f] at hk
     repeat (first | refine za7 ?_ | refine za8 ?_ | refine za5 ?_ | refine zbn rfl ?_ | refine zbb ?_ | refine zad ?_)
     refine zby ?_
     repeat (first | refine zbd ?_ | refine zb7 ?_)
     exact zal (show i - (out ++ [x]).length < i - out.length by rw [y0l, y11]; omega) (za9 (.cons rfl (.cons rfl (.cons rfl .nil)))) ⟨_, _, _, _, _, _, rfl, by rw [y0l, y11]; omega, hT2, by rw [y0l, y11, ← hS, Nat.sub_sub], hO2, hnx2, hk, hG, rfl⟩
   ·have hie : out.length = i := by
     have h4 : ¬ ((out.length : Nat) : Int) < ((i : Nat) : Int) := of_decide_eq_false h3
     omega
    rw [hie, Nat.sub_self] at hS
    have hV : srtV E i = .tup [vsI (iL out), .bool true] := by unfold srtV; rw [← hS]; rfl
    rw [hV]
    repeat (first | refine za8 ?_ | refine za5 ?_ | refine zbn rfl ?_ | refine zbb ?_ | refine zad ?_)
    refine zby ?_
    repeat (first | refine za7 ?_ | refine za0 rfl ?_ | refine za8 ?_ | refine za5 ?_ | refine zau ?_ | refine zb7 ?_ | refine za1 rfl ?_)
    refine zao ⟨.inr rfl, _, rfl, ?_⟩
    exact congrArg AV.tup (zf1 hG.view rfl)
def layN (m : Nat) (E : List (Nat × Nat)) : AV := match zlq E m m [] with
 | some l => .tup [vsI (zuq E m l), .int .i64 0]
 | none => .tup [.vs [], .int .i64 20]
def layV (n : Int) (es : List (Int × Int)) : AV := if zf9 n es = 0 then layN n.toNat (es.map fun e => (e.1.toNat, e.2.toNat)) else .tup [.vs [], .int .i64 (zf9 n es)]
theorem zur {m : Nat} {E : List (Nat × Nat)} (h : zf9 m (zbm E) = 0) : layV m (zbm E) = layN m E := by
 unfold layV
 rw [if_pos h, zg5]
 rfl
theorem layV_err {n : Int} {es : List (Int × Int)} (h : zf9 n es ≠ 0) : layV n es = .tup [.vs [], .int .i64 (zf9 n es)] := if_neg h
theorem zgs (n : Int) (es : List (Int × Int)) : zkp n es [] = zf9 n es := by
 unfold zkp
 split
 ·rename_i h
  rw [h]
  rfl
 ·rfl
def b22_2 : IC := .seq (.region [oM 43 (.bin .lss (.t 42) (.t 41))] none)
 (.seq (.cond (.t 43) (.skip)
 (.exit 2))
 (.seq (.block 3 (.seq (.region [oM 44 (.idxs 1 (.t 40) (.t 42)),
  oN 45 44,
  oT 12 45] none)
 (.region [oT 46 8,
  oT 47 12,
  oT 48 8,
  oT 49 12,
  oM 50 (.idxs 1 (.t 48) (.t 49)),
  oN 51 50,
  oT 52 8,
  oT 53 10,
  oM 54 (.idxs 1 (.t 52) (.t 53)),
  oN 55 54,
  oM 56 (.bin .add (.t 55) (.c (.int .i64 1))),
  oM 57 (.minmax true [(.t 51), (.t 56)]),
  oM 58 (.idxs 1 (.t 46) (.t 47)),
  ⟨none, .store 1 (.t 58) (.t 57), none⟩] (some [[], [], [], [], [2, 3], [4], [], [], [6, 7], [8], [9], [5, 10], [0, 1, 0, 1, 2, 3, 4, 5, 6, 7, 8, 9, 10, 11], [12, 11, 0, 1, 2, 3, 4, 5, 6, 7, 8, 9, 10, 11]]))))
 (.region [oM 59 (.bin .add (.t 42) (.c (.int .i64 1))),
  oT 42 59] none)))
def b22_0 : IC := .seq (.region [oM 34 (.bin .lss (.t 33) (.t 32))] none)
 (.seq (.cond (.t 34) (.skip)
 (.exit 0))
 (.seq (.block 1 (.seq (.region [oM 35 (.idxs 1 (.t 31) (.t 33)),
  oN 36 35,
  oT 10 36] none)
 (.seq (.region [oT 37 4,
  oT 38 10,
  oM 39 (.idxs 1 (.t 37) (.t 38)),
  oN 40 39,
  oM 41 (.len false (.t 40)),
  oM 42 (.mov (.c (.int .i64 0)))] none)
 (.block 2 (.loop b22_2)))))
 (.region [oM 60 (.bin .add (.t 33) (.c (.int .i64 1))),
  oT 33 60] none)))
-- pneumatic/digraph.Layers
def ic22 : IC := .seq (.region [oM 1 (.box (.t 0)),
  oM 2 (.mov (.c (.nils))),
  oM 3 (.mov (.c (.int .i64 0)))] none)
 (.seq (.region [oL 14 2 1,
  oM 15 (.call (.c (.fn 33 [] [])) [(.t 14), (.c (.nils))]),
  oT 13 15,
  oM 16 (.extract (.t 13) 0),
  oM 17 (.extract (.t 13) 1),
  oT 4 16,
  oT 5 17] none)
 (.seq (.seq (.region [oT 18 5,
  oM 19 (.bin .neq (.t 18) (.c (.int .i64 0)))] none)
 (.cond (.t 19) (.seq (.region [oT 20 5,
  oM 2 (.mov (.c (.nils))),
  oT 3 20] none)
 (.ret))
 (.skip)))
 (.seq (.region [oT 22 4,
  oM 23 (.call (.c (.fn 45 [] [])) [(.t 22)]),
  oT 21 23,
  oM 24 (.extract (.t 21) 0),
  oM 25 (.extract (.t 21) 1),
  oT 6 24,
  oT 7 25] none)
 (.seq (.seq (.region [oT 26 7,
  oM 27 (.un .not (.t 26))] none)
 (.cond (.t 27) (.seq (.region [oM 2 (.mov (.c (.nils))),
  oM 3 (.mov (.c (.int .i64 20)))] none)
 (.ret))
 (.skip)))
 (.seq (.region [oF 28 0 1,
  oN 29 28,
  oM 30 (.mkslice 1 8 [.int .i64 0] (.t 29) (.t 29)),
  oT 8 30] none)
 (.seq (.seq (.region [oT 31 6,
  oM 32 (.len false (.t 31)),
  oM 33 (.mov (.c (.int .i64 0)))] none)
 (.block 0 (.loop b22_0)))
 (.seq (.region [oT 61 8,
  oT 2 61,
  oM 3 (.mov (.c (.int .i64 0)))] none)
 (.ret))))))))
theorem fn22 : env0.fn 22 = some ⟨62, ic22, [.t 2, .t 3]⟩ := by kernel_rfl
theorem zq7 (x : Nat) : ∀ (d : List Nat) (o : List Int), (d.foldl (fun o w => rlx o (x, w)) o).length = o.length
 | [], _ => rfl
 | w :: d, o => by rw [y23, zq7 x d, zvq]
theorem zpt (E : List (Nat × Nat)) (m : Nat) : ∀ (l : List Nat) (o : List Int), (l.foldl (fun o x => (nbr E m x).foldl (fun o w => rlx o (x, w)) o) o).length = o.length
 | [], _ => rfl
 | x :: l, o => by rw [y23, zpt E m l, zq7]
set_option maxHeartbeats 8000000 in
theorem layers38 (n : Int) (es : List (Int × Int)) : PF Try.prog 22 [cG n es] (layV n es) := by
 have ez : ∀ o : Nat, 0 + ((o : Nat) : Int).toNat * 1 = o := fun o => by simp
 have p46 := znw n es [] (y0s _)
 refine zaw env0_ok fn22 [(0, .agg [.int .i64 n, .vs (cE es)])] (by show 1 ≤ 62; decide) rfl fun w0 N0 => ?_
 unfold ic22
 refine zsr rfl (zd6 rfl rfl (za1 rfl (za1 rfl (onu ?_))))
 refine zcc [] [(0, 0, [.int .i64 n, .vs (cE es)])] [(1, .vptr [.int .i64 n, .vs (cE es)])] rfl (.cons rfl rfl .nil) .nil (.cons rfl (.fptr rfl rfl) .nil) ?_
 repeat (first | refine za7 ?_ | refine za0 rfl ?_ | refine zb3 rfl rfl rfl rfl ?_)
 refine zat rfl rfl p46 noC ?_
 by_cases hg : zf9 n es = 0
 ·obtain ⟨m, E, rfl, rfl, hm, _, hE, hb⟩ := zjj hg
  rw [zkq ((zgs _ _).trans hg), zur hg]
  have p50 := sorted50 m hm E hb
  unfold srtV at p50
  unfold layN
  have hb2 := fun u v h => (hb u v h).2
  repeat (first | refine za7 ?_ | refine za0 rfl ?_ | refine za8 ?_ | refine za5 ?_ | refine zae ?_ | refine zbn rfl ?_ | refine za1 rfl ?_ | refine zb0 rfl rfl ?_ | refine zdc rfl rfl rfl ?_)
  refine zat rfl rfl p50 noC ?_
  cases hs : zlq E m m [] with
  | none =>
   repeat (first | refine za7 ?_ | refine za0 rfl ?_ | refine za8 ?_ | refine za5 ?_ | refine zbz rfl ?_ | refine zau ?_ | refine zak ?_ | refine za1 rfl ?_ | refine o_un rfl rfl ?_ | refine zb0 rfl rfl ?_)
   exact zao ⟨.inr rfl, _, rfl, rfl⟩
  | some l =>
   obtain ⟨hT, hll, _⟩ := zfk hs
   repeat (first | refine za7 ?_ | refine za0 rfl ?_ | refine za8 ?_ | refine za5 ?_ | refine zae ?_ | refine zbn rfl ?_ | refine za1 rfl ?_ | refine zag rfl rfl ?_ | refine zaz rfl rfl rfl ?_ | refine o_un rfl rfl ?_ | refine zb0 rfl rfl ?_)
   refine o_mks rfl rfl ⟨y0y m, y1e _, by omega, by decide⟩ ?_
   repeat (first | refine za7 ?_ | refine za0 rfl ?_ | refine za8 ?_ | refine za5 ?_ | refine zac ?_ | refine za1 rfl ?_ | refine zbl rfl rfl ?_)
   have hpre := zps hb hT
   have hvl : ((iL l).map fun z => ([.int .i64 z] : List AV)).length = m := by rw [y04, zh4, hll]
   refine zb8 (fun mm S => ∃ i hp nx ck, mm = m - i ∧ i ≤ m ∧ 0 < nx ∧ Am.look 0 hp = some (1, .cells ((zuq E m (l.take i)).map (AV.int .i64))) ∧ S = st 62 [(4, cN E m), (8, .ms 0 1 1 0 m (some m)), (31, vsI (iL l)), (32, .int .i64 (m : Nat)), (33, .int .i64 (i : Nat))] hp nx ck) m
    (za9 (.cons rfl (.cons rfl (.cons rfl (.cons (by exact congrArg (fun z : Nat => some (AV.int .i64 (z : Nat))) hvl) (.cons rfl .nil)))))) ⟨0, _, _, _, rfl, y0s _, Nat.zero_lt_one, by rw [List.take_zero]; show some (1, AObj.cells (zed m [.int .i64 0])) = _; rw [zn0]; rfl, rfl⟩ ?_
   rintro mm S ⟨i, hp, nx, ck, rfl, hi, hnx, hk, rfl⟩
   unfold b22_0
   repeat (first | refine za7 ?_ | refine za0 rfl ?_)
   refine zam rfl rfl rfl (fun h3 => ?_) fun h3 => ?_
   ·have hlt : i < m := y0x.1 (of_decide_eq_true h3)
    have w1 : IntKind.wrap .i64 (((i : Nat) : Int) + 1) = ((i + 1 : Nat) : Int) := zab i (by omega)
    have hltl : i < l.length := by omega
    have hgx : ((iL l).map fun z => ([.int .i64 z] : List AV))[((i : Nat) : Int).toNat]? = some [.int .i64 (l[i] : Nat)] := by
     rw [ze5 (by rw [zh4]; exact hltl)]
     unfold iL
     rw [y2f]
    have hxm := hT.lt l[i] (y0z hltl)
    have hts : zuq E m (l.take (i + 1)) = (nbr E m l[i]).foldl (fun o w => rlx o (l[i], w)) (zuq E m (l.take i)) := zf7 (fun o x => (nbr E m x).foldl (fun o w => rlx o (x, w)) o) (List.replicate m 0) hltl
    have hp1 := hpre (l.take i) (l.drop i) (List.take_append_drop i l).symm
    generalize l[i] = x at *
    generalize zuq E m (l.take i) = o at *
    have hgN := zp7 (E := E) hxm
    have hnl := zl8 E m x
    have hin : ∀ w ∈ nbr E m x, w < m := fun w hw => hb2 _ _ ((zbx hb2).1 hw)
    have hxx : x ∉ nbr E m x := fun h => by
     have := hT.walk (Wk.step (.refl x) ((zbx hb2).1 h)) (zsc hT.nd hT.lt (Nat.le_of_eq hll.symm) x hxm)
     omega
    have hst := fun j => lyq (E := E) (x := x) hp1.len ((nbr E m x).take j) (fun h => hxx (y1q h)) fun w hw => hin w (y1q hw)
    have hle := hp1.le
    have hlo := hp1.low
    generalize nbr E m x = d at *
    repeat (first | refine za7 ?_ | refine za0 rfl ?_ | refine za8 ?_ | refine za5 ?_ | refine zac ?_ | refine zae ?_ | refine zbz rfl ?_ | refine za1 rfl ?_ | refine zag rfl rfl ?_ | refine zbl rfl rfl ?_ | refine zb1 rfl rfl (by omega) (by assumption) rfl ?_)
    refine zb8 (fun mm S => ∃ j hp, mm = d.length - j ∧ j ≤ d.length ∧ Am.look 0 hp = some (1, .cells (((d.take j).foldl (fun o w => rlx o (x, w)) o).map (AV.int .i64))) ∧ S = st 62 [(4, cN E m), (8, .ms 0 1 1 0 m (some m)), (31, vsI (iL l)), (32, .int .i64 (m : Nat)), (33, .int .i64 (i : Nat)), (10, .int .i64 (x : Nat)), (40, vN d), (41, .int .i64 ((d.map fun w => ([.int .i64 (w : Nat)] : List AV)).length : Nat)), (42, .int .i64 (j : Nat))] hp nx ck) d.length
     (za9 (.cons rfl (.cons rfl (.cons rfl (.cons rfl (.cons rfl (.cons rfl (.cons rfl (.cons rfl (.cons rfl .nil)))))))))) ⟨0, _, rfl, y0s _, hk, rfl⟩ ?_
    rintro mm S ⟨j, hp, rfl, hj, hk, rfl⟩
    have hsj := hst j
    unfold b22_2
    repeat (first | refine za7 ?_ | refine za0 rfl ?_)
    refine zam rfl rfl rfl (fun h4 => ?_) fun h4 => ?_
    ·have hlt2 : j < d.length := by
      have h5 : ((j : Nat) : Int) < (((d.map fun w => ([.int .i64 (w : Nat)] : List AV)).length : Nat) : Int) := of_decide_eq_true h4
      rw [y04] at h5
      exact y0x.1 h5
     have w2 : IntKind.wrap .i64 (((j : Nat) : Int) + 1) = ((j + 1 : Nat) : Int) := zab j (by omega)
     have hgv := zk8 hlt2
     have hym := hin d[j] (y0z hlt2)
     have hts2 := zf7 (fun o w => rlx o (x, w)) o hlt2
     have hox := hsj.same x fun h => hxx (y1q h)
     have hol2 := hsj.len
     generalize (d.take j).foldl (fun o w => rlx o (x, w)) o = o2 at *
     generalize d[j] = y at *
     have w3 : IntKind.wrap .i64 (gZ o2 x + 1) = gZ o2 x + 1 := zd8 _ (by have := hle x; have := hlo x; omega) (by have := hle x; have := hlo x; omega)
     repeat (first | refine za7 ?_ | refine za0 rfl ?_ | refine za8 ?_ | refine za5 ?_ | refine zac ?_ | refine zae ?_ | refine zbz rfl ?_ | refine za1 rfl ?_ | refine zag rfl rfl ?_ | refine zdl env0_ok rfl rfl rfl ?_ | refine zb1 rfl rfl (by omega) (by assumption) rfl ?_ | refine zax rfl rfl (by omega) (by omega) ?_)
     rw [ez]
     refine zap (id := 0) (sp := 1) (off := y) rfl hk hnx (zpn (by omega)) ?_
     repeat (first | refine za1 rfl ?_ | refine zax rfl rfl (by omega) (by omega) ?_)
     rw [ez]
     refine zap (id := 0) (sp := 1) (off := x) rfl hk hnx (zpn (by omega)) ?_
     repeat (first | refine zv4 rfl rfl rfl ?_ | refine zav (op := .add) rfl rfl rfl ?_ | refine zax rfl rfl (by omega) (by omega) ?_)
     rw [ez, w3, if_pos rfl, show (if gZ o2 x + 1 > gZ o2 y then gZ o2 x + 1 else gZ o2 y) = max (gZ o2 y) (gZ o2 x + 1) from by split <;> omega]
     refine zbj (id := 0) (sp := 1) (off := y) rfl rfl rfl hk (by simp; omega) rfl ?_
     repeat (first | refine za0 rfl ?_ | refine za8 ?_ | refine za5 ?_ | refine zbd ?_ | refine za1 rfl ?_ | refine zav (op := .add) rfl rfl rfl ?_)
     rw [w2]
     exact zal (show d.length - (j + 1) < d.length - j by omega) (za9 (.cons rfl (.cons rfl (.cons rfl (.cons rfl (.cons rfl (.cons rfl (.cons rfl (.cons rfl (.cons rfl .nil)))))))))) ⟨j + 1, _, rfl, hlt2, by rw [za4, if_pos rfl, ← List.map_set, hts2]; rfl, rfl⟩
    ·have hje : j = d.length := by
      have h5 : ¬ ((j : Nat) : Int) < (((d.map fun w => ([.int .i64 (w : Nat)] : List AV)).length : Nat) : Int) := of_decide_eq_false h4
      rw [y04] at h5
      omega
     subst hje
     rw [y1f] at hk
     repeat (first | refine za7 ?_ | refine za8 ?_ | refine za5 ?_ | refine zbn rfl ?_ | refine zbb ?_ | refine zad ?_)
     refine zby ?_
     repeat (first | refine za0 rfl ?_ | refine za8 ?_ | refine za5 ?_ | refine zbd ?_ | refine zb7 ?_ | refine za1 rfl ?_ | refine zav (op := .add) rfl rfl rfl ?_)
     rw [w1]
     exact zal (show m - (i + 1) < m - i by omega) (za9 (.cons rfl (.cons rfl (.cons rfl (.cons rfl (.cons rfl .nil)))))) ⟨i + 1, _, _, _, rfl, hlt, hnx, by rw [hts]; exact hk, rfl⟩
   ·have hie : i = m := by
     have h4 : ¬ ((i : Nat) : Int) < ((m : Nat) : Int) := of_decide_eq_false h3
     omega
    subst hie
    rw [y2o (Nat.le_of_eq hll)] at hk
    repeat (first | refine za7 ?_ | refine za8 ?_ | refine za5 ?_ | refine zbn rfl ?_ | refine zbb ?_ | refine zad ?_)
    refine zby ?_
    repeat (first | refine za7 ?_ | refine za0 rfl ?_ | refine za8 ?_ | refine za5 ?_ | refine zau ?_ | refine zb7 ?_ | refine za1 rfl ?_)
    refine zao ⟨.inr rfl, _, rfl, ?_⟩
    have hfl := zpt E i l (List.replicate i 0)
    rw [y1j] at hfl
    exact congrArg AV.tup (zf1 (zce _ hfl hk) rfl)
 ·have hg2 : ¬ zkp n es [] = 0 := by rw [zgs]; exact hg
  rw [zga hg2, layV_err hg, zgs]
  repeat (first | refine za7 ?_ | refine za0 rfl ?_ | refine za8 ?_ | refine za5 ?_ | refine za1 rfl ?_ | refine zb0 rfl rfl ?_)
  refine zam rfl rfl rfl (fun h => ?_) fun h => absurd (by simpa using h) hg
  repeat (first | refine za7 ?_ | refine za0 rfl ?_ | refine za8 ?_ | refine za5 ?_ | refine zbz rfl ?_ | refine zau ?_ | refine zak ?_ | refine za1 rfl ?_)
  exact zao ⟨.inr rfl, _, rfl, rfl⟩
theorem gI_at {o : List Int} {i : Nat} (h : i < o.length) : o[i] = gI o i := by
 unfold gI
 rw [y0b, y07 h]
 rfl
def swE (es : List (Int × Int)) : List (Int × Int) := es.map fun e => (e.2, e.1)
theorem swE_succ {es : List (Int × Int)} {i : Nat} (h : i < es.length) : swE (es.take (i + 1)) = swE (es.take i) ++ [(es[i].2, es[i].1)] := by
 unfold swE
 rw [y2b, y07 h, y1u]
 rfl
theorem swE_len (es : List (Int × Int)) (i : Nat) : (swE (es.take i)).length ≤ i := by
 unfold swE
 rw [y04, y2g]
 omega
def Rv (q : List (Int × Int)) (w : AV) (hp : List (Nat × Nat × AObj)) (nx : Nat) : Prop :=
 (q = [] ∧ w = .nils) ∨ ∃ id sp, w = .ms id sp 2 0 q.length none ∧ Am.look id hp = some (sp, .cells (cE q).flatten) ∧ 1 < id ∧ id < nx
structure Rq (n : Int) (q : List (Int × Int)) (v w : AV) (hp : List (Nat × Nat × AObj)) (nx : Nat) : Prop where
 res : Am.look 0 hp = some (0, .cells [.int .i64 0, .nils])
 out : Am.look 1 hp = some (1, .cells [.int .i64 n, v])
 lst : Rv q w hp nx
 nx1 : 1 < nx
section
variable {n : Int} {q : List (Int × Int)} {v w : AV} {hp : List (Nat × Nat × AObj)} {nx : Nat}
theorem Rq.fresh (h : Rq n q v w hp nx) (ck : Nat) (x : AObj) : Rq n q v w ((nx, ck, x) :: hp) (nx + 1) := by
 have h1 := h.nx1
 refine ⟨by rw [za3, if_neg (by omega)]; exact h.res, by rw [za3, if_neg (by omega)]; exact h.out, ?_, by omega⟩
 rcases h.lst with h2 | ⟨id, sp, e, hl, a, b⟩
 ·exact .inl h2
 ·exact .inr ⟨id, sp, e, by rw [za3, if_neg (by omega)]; exact hl, a, by omega⟩
theorem Rq.store (h : Rq n q v w hp nx) (x : AV) : Rq n q x w (zbu 1 (1, .cells [.int .i64 n, x]) hp) nx := by
 refine ⟨by rw [za4, if_neg (by decide)]; exact h.res, by rw [za4, if_pos rfl], ?_, h.nx1⟩
 rcases h.lst with h2 | ⟨id, sp, e, hl, a, b⟩
 ·exact .inl h2
 ·exact .inr ⟨id, sp, e, by rw [za4, if_neg (by omega)]; exact hl, a, b⟩
theorem Rq.fresh2 (h : Rq n q v w hp nx) (ck : Nat) (x : AObj) (y : Nat × AObj) : Rq n q v w (zbu nx y ((nx, ck, x) :: hp)) (nx + 1) := by
 have h0 := h.nx1
 have h1 := h.fresh ck x
 refine ⟨by rw [za4, if_neg (by omega)]; exact h1.res, by rw [za4, if_neg (by omega)]; exact h1.out, ?_, h1.nx1⟩
 rcases h.lst with h2 | ⟨id, sp, e, hl, a, b⟩
 ·exact .inl h2
 ·exact .inr ⟨id, sp, e, by rw [za4, if_neg (by omega), za3, if_neg (by omega)]; exact hl, a, by omega⟩
theorem cE_snoc (q : List (Int × Int)) (x : Int × Int) : (cE q).flatten ++ [[AV.int .i64 x.1, AV.int .i64 x.2]].flatten = (cE (q ++ [x])).flatten := by
 unfold cE
 rw [y1u, List.flatten_append]
 rfl
theorem zng (q : List (Int × Int)) : (cE q).flatten.length = q.length * 2 := by
 induction q with
 | nil => rfl
 | cons e q ih =>
  show ([AV.int .i64 e.1, AV.int .i64 e.2] ++ (cE q).flatten).length = _
  rw [y0l, ih]
  show 2 + q.length * 2 = (q.length + 1) * 2
  omega
theorem Rq.app_new (h : Rq n [] v .nils hp nx) (ck : Nat) (x : Int × Int) : Rq n [x] v (.ms nx ck 2 0 1 none) ((nx, ck, .cells [.int .i64 x.1, .int .i64 x.2]) :: hp) (nx + 1) := by
 have h1 := h.nx1
 exact ⟨by rw [za3, if_neg (by omega)]; exact h.res, by rw [za3, if_neg (by omega)]; exact h.out, .inr ⟨nx, ck, rfl, zah, h1, y0q _⟩, by omega⟩
theorem Rq.app_old {id sp len : Nat} (h : Rq n q v (.ms id sp 2 0 q.length none) hp nx) (hid : 1 < id) (hn : id < nx) (ck : Nat) (x : Int × Int) : Rq n (q ++ [x]) v (.ms id ck 2 0 (q.length + 1) none) (zbu id (ck, .cells (cE (q ++ [x])).flatten) hp) nx :=
 ⟨by rw [za4, if_neg (by omega)]; exact h.res, by rw [za4, if_neg (by omega)]; exact h.out, .inr ⟨id, ck, by rw [y0l]; rfl, by rw [za4, if_pos rfl], hid, hn⟩, h.nx1⟩
theorem o_rapp {w0 : World} {N0 nn d ck : Nat} {k : List Fr} {Q : Exit → AS → Prop} {l : List (Nat × AV)} {ios : List Opr} {bytes j sj : Nat} {x : Int × Int} {z : List AV} {s xa : Arg} (hF : Rq n q v w hp nx) (hlen : q.length ≤ 1000000) (hs : zb6 s l = some w) (hx : zb6 xa l = some (.ms j sj 2 0 1 (some 1))) (hj : Am.look j hp = some (sj, .cells [.int .i64 x.1, .int .i64 x.2])) (hb : bytes ≤ 16777216)
  (go : ∀ w' hp' nx' ck', Rq n (q ++ [x]) v w' hp' nx' → Om Try.prog w0 N0 none (KnP Try.prog w0 N0) ios (st nn ((d, w') :: l) hp' nx' ck') k Q) :
  Om Try.prog w0 N0 none (KnP Try.prog w0 N0) (⟨some d, .append 2 bytes z s xa, none⟩ :: ios) (st nn l hp nx ck) k Q := by
 have hel : ∀ l, (st nn l hp nx ck []).elems 2 (.ms j sj 2 0 1 (some 1)) = some [[.int .i64 x.1, .int .i64 x.2]] := fun l => zcv (xs := [[.int .i64 x.1, .int .i64 x.2]]) (ys := []) hj rfl fun x hx => by obtain rfl := y0f.1 hx; rfl
 rcases hF.lst with ⟨rfl, rfl⟩ | ⟨id, sp, rfl, hl, h1, h2⟩
 ·have hi : iop (st nn l hp nx ck) (.append 2 bytes z s xa) = some (.ms nx ck 2 0 1 none, st nn l ((nx, ck, .cells [.int .i64 x.1, .int .i64 x.2]) :: hp) (nx + 1) (ck + 1)) := by
   simp only [iop, zaq, hs, hx, hel]
   unfold zbg
   rw [if_neg (show ¬ [[AV.int .i64 x.1, AV.int .i64 x.2]].length = 0 from y24 0), if_pos (show [[AV.int .i64 x.1, AV.int .i64 x.2]].flatten.all AV.isCell = true ∧ bytes ≤ 16777216 from ⟨rfl, hb⟩)]
   rfl
  exact zdt hi (go _ _ _ _ (hF.app_new ck x)) (fun _ _ _ _ _ _ _ => rfl)
 ·refine zdq [[.int .i64 x.1, .int .i64 x.2]] hs hx (hel _) (fun h => Nat.noConfusion h) rfl hb hl (zng q).symm (by show _ + 1 ≤ _; omega) ?_ (fun _ _ _ _ _ _ _ => rfl)
  refine go _ _ _ _ ?_
  rw [cE_snoc]
  exact hF.app_old (len := 0) h1 h2 ck x
theorem Rv.cell (h : Rv q w hp nx) : w.isCell = true ∧ w.cells? = some [w] := by
 rcases h with ⟨rfl, rfl⟩ | ⟨id, sp, rfl, hl, _, _⟩
 ·exact ⟨rfl, rfl⟩
 ·exact ⟨rfl, rfl⟩
theorem zvm {S : AS} {a : Nat} {pa x y : AV} (h1 : S.get a = some pa) (d1 : S.deref pa = some [x, y]) : S.res [.cell a (some 2)] = some (.agg [x, y]) := by
 simp [AS.res, AS.resL, loadA, h1, d1]
theorem Rv.view {S : AS} {d : Nat} (h : Rv q w S.heap nx) : S.view (d + 1) w = .vs (cE q) := by
 rcases h with ⟨rfl, rfl⟩ | ⟨id, sp, rfl, hl, _, _⟩
 ·rfl
 ·have e : S.elems 2 (.ms id sp 2 0 q.length none) = some (cE q) := by
   obtain ⟨n, t, hp, nx, ck, mk⟩ := S
   exact zcv (ys := []) (cap := none) (n := n) (nx := nx) (ck := ck) (mk := mk) (l := []) (hp := hp) (by rw [y18]; exact hl) (zd9 q) (fun x hx => by obtain ⟨s, _, rfl⟩ := y0i.1 hx; rfl)
  simp only [AS.view, e]
  congr 1
  unfold cE
  rw [y1v]
  apply y1x
  intro s _
  cases d <;> rfl
end
def b46_0 : IC := .seq (.region [oM 13 (.bin .lss (.t 12) (.t 11))] none)
 (.seq (.cond (.t 13) (.skip)
 (.exit 0))
 (.seq (.block 1 (.seq (.region [oM 14 (.idxs 2 (.t 10) (.t 12)),
  oL 15 2 14,
  oM 5 (.alloc [.int .i64 0, .int .i64 0]),
  ⟨none, .store 2 (.t 5) (.t 15), none⟩] none)
 (.region [oF 16 1 3,
  oN 17 16,
  oF 18 1 5,
  oN 19 18,
  oF 20 0 5,
  oN 21 20,
  oM 22 (.build [.int .i64 0, .int .i64 0] [(0, 1, (.t 19)), (1, 1, (.t 21))]),
  oM 23 (.bslice 2 1 [.int .i64 0, .int .i64 0] [(0, 2, (.t 22))]),
  oM 24 (.append 2 16 [.int .i64 0, .int .i64 0] (.t 17) (.t 23)),
  oF 25 1 3,
  ⟨none, .store 1 (.t 25) (.t 24), none⟩] none)))
 (.region [oM 26 (.bin .add (.t 12) (.c (.int .i64 1))),
  oT 12 26] none)))
-- pneumatic/digraph.reversed
def ic46 : IC := .seq (.region [oM 1 (.box (.t 0)),
  oM 2 (.alloc [.int .i64 0, .nils])] none)
 (.seq (.region [oF 6 0 1,
  oN 7 6,
  oM 8 (.build [.int .i64 0, .nils] [(0, 1, (.t 7))]),
  oM 3 (.alloc [.int .i64 0, .nils]),
  ⟨none, .store 2 (.t 3) (.t 8), none⟩] none)
 (.seq (.seq (.region [oF 9 1 1,
  oN 10 9,
  oM 11 (.len false (.t 10)),
  oM 12 (.mov (.c (.int .i64 0)))] none)
 (.block 0 (.loop b46_0)))
 (.seq (.region [oL 27 2 3,
  ⟨none, .store 2 (.t 2) (.t 27), none⟩] none)
 (.ret))))
theorem fn46 : env0.fn 46 = some ⟨28, ic46, [.cell 2 (some 2)]⟩ := by kernel_rfl
set_option maxHeartbeats 4000000 in
theorem zk3 (n : Int) (es : List (Int × Int)) (he : es.length ≤ 1000000) : PF Try.prog 46 [cG n es] (cG n (swE es)) := by
 have hcl := zd9 es
 refine zaw env0_ok fn46 [(0, .agg [.int .i64 n, .vs (cE es)])] (by show 1 ≤ 28; decide) rfl fun w0 N0 => ?_
 unfold ic46
 refine zsr rfl (zd6 rfl rfl (zcp (onu ?_)))
 refine zcc [(some (1, 1), [.int .i64 0, .nils])] [(0, 0, [.int .i64 n, .vs (cE es)])] [(1, .vptr [.int .i64 n, .vs (cE es)]), (2, .mptr 0 0 0)] rfl (.cons rfl rfl .nil) (.cons rfl (.cons (.same rfl) (.cons (.same rfl) .nil)) .nil) (.cons rfl (.fptr rfl rfl) (.cons rfl (.mptr rfl) .nil)) ?_
 repeat (first | refine za7 ?_ | refine za0 rfl ?_ | refine za8 ?_ | refine za5 ?_ | refine zac ?_ | refine za1 rfl ?_ | refine zag rfl rfl ?_ | refine zci rfl rfl rfl rfl rfl rfl rfl ?_ | refine zaz rfl rfl rfl ?_ | refine zcp ?_ | refine zbl rfl rfl ?_ | refine zft rfl rfl ?_)
 refine zb8 (fun mm S => ∃ i v hp nx ck, mm = es.length - i ∧ i ≤ es.length ∧ Rq n (swE (es.take i)) v v hp nx ∧ S = st 28 [(2, .mptr 0 0 0), (3, .mptr 1 1 0), (10, .vs (cE es)), (11, .int .i64 ((cE es).length : Nat)), (12, .int .i64 (i : Nat))] hp nx ck) es.length
  (za9 (.cons rfl (.cons rfl (.cons rfl (.cons rfl (.cons rfl .nil)))))) ⟨0, .nils, _, _, _, rfl, y0s _, ⟨rfl, rfl, .inl ⟨rfl, rfl⟩, by decide⟩, rfl⟩ ?_
 rintro mm S ⟨i, v, hp, nx, ck, rfl, hi, hF, rfl⟩
 have hql := swE_len es i
 unfold b46_0
 repeat (first | refine za7 ?_ | refine za0 rfl ?_)
 refine zam rfl rfl rfl (fun h3 => ?_) fun h3 => ?_
 ·have hlt : i < es.length := by
   have h4 : ((i : Nat) : Int) < (((cE es).length : Nat) : Int) := of_decide_eq_true h3
   omega
  have w1 : IntKind.wrap .i64 (((i : Nat) : Int) + 1) = ((i + 1 : Nat) : Int) := zab i (by omega)
  have hg := zp4 hlt
  have hs := swE_succ hlt
  generalize es[i].1 = a at *
  generalize es[i].2 = b at *
  repeat (first | refine za7 ?_ | refine za0 rfl ?_ | refine za8 ?_ | refine za5 ?_ | refine zac ?_ | refine zae ?_ | refine zbz rfl ?_ | refine zb3 rfl rfl rfl rfl ?_ | refine zcp ?_ | refine zb1 rfl rfl (by omega) (by assumption) rfl ?_)
  refine zci (id := nx) (sp := ck) (off := 0) rfl rfl rfl rfl zah rfl rfl ?_
  have hF1 := hF.fresh2 ck (.cells [.int .i64 0, .int .i64 0]) (ck, .cells [.int .i64 a, .int .i64 b])
  have k5 : Am.look nx (zbu nx (ck, AObj.cells [.int .i64 a, .int .i64 b]) ((nx, ck, AObj.cells [.int .i64 0, .int .i64 0]) :: hp)) = some (ck, .cells [.int .i64 a, .int .i64 b]) := by
   rw [za4, if_pos rfl]
  repeat (first | refine za0 rfl ?_ | refine za8 ?_ | refine za5 ?_ | refine zai rfl ?_)
  refine zap (id := 1) (sp := 1) (off := 0 + 1) rfl hF1.out hF1.nx1 rfl ?_
  repeat (first | refine zai rfl ?_)
  refine zap (id := nx) (sp := ck) (off := 0 + 1) rfl k5 (y0q _) rfl ?_
  repeat (first | refine zai rfl ?_)
  refine zap (id := nx) (sp := ck) (off := 0) rfl k5 (y0q _) rfl ?_
  repeat (first | refine zft rfl rfl ?_ | refine zbi rfl rfl ?_)
  refine o_rapp (x := (b, a)) (hF1.fresh _ (.cells [.int .i64 b, .int .i64 a])) (by omega) rfl rfl zah (by decide) fun w' hp' nx' ck' hF2 => ?_
  repeat (first | refine zai rfl ?_)
  refine zbj (id := 1) (sp := 1) (off := 0 + 1) rfl rfl hF2.lst.cell.2 hF2.out (by simp) hF2.lst.cell.1 ?_
  repeat (first | refine za0 rfl ?_ | refine za8 ?_ | refine za5 ?_ | refine zbd ?_ | refine za1 rfl ?_ | refine zav (op := .add) rfl rfl rfl ?_)
  rw [w1]
  exact zal (show es.length - (i + 1) < es.length - i by omega) (za9 (.cons rfl (.cons rfl (.cons rfl (.cons rfl (.cons rfl .nil)))))) ⟨i + 1, w', _, _, _, rfl, hlt, by rw [hs]; exact hF2.store w', rfl⟩
 ·have hie : i = es.length := by
   have h4 : ¬ ((i : Nat) : Int) < (((cE es).length : Nat) : Int) := of_decide_eq_false h3
   omega
  subst hie
  rw [y1f] at hF
  repeat (first | refine za7 ?_ | refine za8 ?_ | refine za5 ?_ | refine zbn rfl ?_ | refine zbb ?_ | refine zad ?_)
  refine zby ?_
  repeat (first | refine za7 ?_ | refine za0 rfl ?_ | refine za5 ?_ | refine zb7 ?_)
  refine zhk (id := 1) (sp := 1) (off := 0) rfl hF.out hF.nx1 rfl rfl ?_
  refine zci (id := 0) (sp := 0) (off := 0) (v := .agg [.int .i64 n, v]) (vs := [.int .i64 n, v]) rfl rfl rfl rfl hF.res rfl (by rw [List.all_cons, List.all_cons, hF.lst.cell.1]; rfl) ?_
  repeat (first | refine za8 ?_ | refine za5 ?_ | refine zau ?_)
  refine zao ⟨.inr rfl, _, zvm ((zmi 2).trans rfl) (zhb (sp := 0) (cs := [.int .i64 n, v]) (by show Am.look 0 (zbu 0 _ hp) = _; rw [za4, if_pos rfl]; rfl) (show 0 < nx by have := hF.nx1; omega) rfl), ?_⟩
  have hv : Rv (swE es) v (zbu 0 (0, .cells [.int .i64 n, v]) hp) nx := by
   rcases hF.lst with h2 | ⟨id, sp, e, hl, a, b⟩
   ·exact .inl h2
   ·exact .inr ⟨id, sp, e, by rw [za4, if_neg (by omega)]; exact hl, a, b⟩
  exact congrArg AV.agg (zf1 rfl hv.view)
theorem zqp (E : List (Nat × Nat)) : swE (zbm E) = zbm (rvE E) := by
 unfold swE zbm rvE
 rw [y1v, y1v]
 rfl
def ptN (m : Nat) (E : List (Nat × Nat)) (f t : Nat) : AV := if gI (zet (rvE E) m t m) f < 0 then .tup [.vs [], .int .i64 6] else .tup [vsI (iL (f :: zd7 E m (zet (rvE E) m t m) (gI (zet (rvE E) m t m) f).toNat f)), .int .i64 0]
def pthV (n : Int) (es : List (Int × Int)) (f t : Int) : AV := if zkp n es [f, t] = 0 then ptN n.toNat (es.map fun e => (e.1.toNat, e.2.toNat)) f.toNat t.toNat else .tup [.vs [], .int .i64 (zkp n es [f, t])]
theorem pthV_ok {m f t : Nat} {E : List (Nat × Nat)} (h : zkp m (zbm E) [(f : Int), (t : Int)] = 0) : pthV m (zbm E) f t = ptN m E f t := by
 unfold pthV
 rw [if_pos h, zg5]
 rfl
theorem pthV_err {n : Int} {es : List (Int × Int)} {f t : Int} (h : zkp n es [f, t] ≠ 0) : pthV n es f t = .tup [.vs [], .int .i64 (zkp n es [f, t])] := if_neg h
-- pneumatic/digraph.Path
def ic27 : IC := .seq (.region [oM 3 (.box (.t 0)),
  oM 6 (.mov (.c (.nils))),
  oM 7 (.mov (.c (.int .i64 0)))] none)
 (.seq (.region [oL 12 2 3,
  oT 13 1,
  oT 14 2,
  oM 15 (.bslice 1 2 [.int .i64 0, .int .i64 0] [(0, 1, (.t 13)), (1, 1, (.t 14))]),
  oM 16 (.call (.c (.fn 33 [] [])) [(.t 12), (.t 15)]),
  oT 11 16,
  oM 17 (.extract (.t 11) 0),
  oM 18 (.extract (.t 11) 1),
  oT 8 17,
  oT 9 18] none)
 (.seq (.seq (.region [oT 19 9,
  oM 20 (.bin .neq (.t 19) (.c (.int .i64 0)))] none)
 (.cond (.t 20) (.seq (.region [oT 21 9,
  oM 6 (.mov (.c (.nils))),
  oT 7 21] none)
 (.ret))
 (.skip)))
 (.seq (.region [oL 22 2 3,
  oM 23 (.call (.c (.fn 46 [] [])) [(.t 22)]),
  oM 24 (.call (.c (.fn 42 [] [])) [(.t 23)]),
  oT 25 2,
  oM 26 (.call (.c (.fn 34 [] [])) [(.t 24), (.t 25)]),
  oT 10 26] none)
 (.seq (.seq (.region [oT 27 10,
  oT 28 1,
  oM 29 (.idxs 1 (.t 27) (.t 28)),
  oN 30 29,
  oM 31 (.bin .lss (.t 30) (.c (.int .i64 0)))] none)
 (.cond (.t 31) (.seq (.region [oM 6 (.mov (.c (.nils))),
  oM 7 (.mov (.c (.int .i64 6)))] none)
 (.ret))
 (.skip)))
 (.seq (.region [oT 32 8,
  oT 33 1,
  oT 34 2,
  oT 35 10,
  oM 36 (.call (.c (.fn 47 [] [])) [(.t 32), (.t 33), (.t 34), (.t 35)]),
  oT 6 36,
  oM 7 (.mov (.c (.int .i64 0)))] none)
 (.ret))))))
theorem fn27 : env0.fn 27 = some ⟨37, ic27, [.t 6, .t 7]⟩ := by kernel_rfl
set_option maxHeartbeats 2000000 in
theorem path27 (n : Int) (es : List (Int × Int)) (hn : zf9 n es = 0 → n ≤ 12) (f t : Int) : PF Try.prog 27 [cG n es, .int .i64 f, .int .i64 t] (pthV n es f t) := by
 have p46 := znw n es [f, t] (by simp)
 refine zaw env0_ok fn27 [(0, .agg [.int .i64 n, .vs (cE es)]), (1, .int .i64 f), (2, .int .i64 t)] (by show 3 ≤ 37; decide) rfl fun w0 N0 => ?_
 unfold ic27
 refine zsr rfl (zd6 rfl rfl (za1 rfl (za1 rfl (onu ?_))))
 refine zcc [] [(0, 0, [.int .i64 n, .vs (cE es)])] [(1, .int .i64 f), (2, .int .i64 t), (3, .vptr [.int .i64 n, .vs (cE es)])] rfl (.cons rfl rfl .nil) .nil (.cons rfl (.same rfl) (.cons rfl (.same rfl) (.cons rfl (.fptr rfl rfl) .nil))) ?_
 repeat (first | refine za7 ?_ | refine za0 rfl ?_ | refine za1 rfl ?_ | refine zb3 rfl rfl rfl rfl ?_)
 refine o_fsl [[.int .i64 f], [.int .i64 t]] rfl rfl rfl rfl ?_
 refine zat rfl rfl p46 noC ?_
 by_cases hg : zkp n es [f, t] = 0
 ·obtain ⟨hc, hv⟩ := giv_ok hg
  obtain ⟨f0, f1⟩ := zwg hv f (by simp)
  obtain ⟨t0, t1⟩ := zwg hv t (by simp)
  have hn := hn hc
  obtain ⟨m, E, rfl, rfl, hm, _, hE, hb⟩ := zjj hc
  obtain ⟨f, rfl⟩ := y2h f0
  obtain ⟨t, rfl⟩ := y2h t0
  have f1 : f < m := by omega
  have t1 : t < m := by omega
  rw [zkq hg, pthV_ok hg]
  have p47 := zk3 (m : Nat) (zbm E) (by unfold zbm; rw [y04]; omega)
  rw [zqp] at p47
  have p45 := zl2 m hm (rvE E) (by rw [zvw]; omega) (zf5 hb)
  have p48 := far48 m (by omega) (rvE E) (zf5 hb) t t1
  have hL := zek (es := rvE E) t1 fun u v h => (zf5 hb u v h).2
  unfold ptN
  generalize zet (rvE E) m t m = back at *
  have hgf : (back.map fun z => ([.int .i64 z] : List AV))[((f : Nat) : Int).toNat]? = some [.int .i64 (gI back f)] := by rw [ze5 (by rw [hL.len]; exact f1), gI_at]
  repeat (first | refine za7 ?_ | refine za0 rfl ?_ | refine za8 ?_ | refine za5 ?_ | refine zae ?_ | refine zbn rfl ?_ | refine za1 rfl ?_ | refine zb3 rfl rfl rfl rfl ?_ | refine zb0 rfl rfl ?_ | refine zdc rfl rfl rfl ?_)
  refine zat rfl rfl p47 noC ?_
  refine zat rfl rfl p45 noC ?_
  repeat (first | refine za1 rfl ?_)
  refine zat rfl rfl p48 noC ?_
  repeat (first | refine za7 ?_ | refine za0 rfl ?_ | refine za8 ?_ | refine za5 ?_ | refine za1 rfl ?_ | refine zag rfl rfl ?_ | refine zb1 rfl rfl (by omega) (by assumption) rfl ?_)
  refine zam rfl rfl rfl (fun h => ?_) fun h => ?_
  ·rw [if_pos (of_decide_eq_true h)]
   repeat (first | refine za7 ?_ | refine za0 rfl ?_ | refine za8 ?_ | refine za5 ?_ | refine zbz rfl ?_ | refine zau ?_ | refine zak ?_ | refine za1 rfl ?_)
   exact zao ⟨.inr rfl, _, rfl, rfl⟩
  ·have h : ¬ gI back f < 0 := of_decide_eq_false h
   rw [if_neg h]
   have p49 := led49 m hm E hb f t f1 t1 back hL (by omega)
   repeat (first | refine za7 ?_ | refine za0 rfl ?_ | refine za8 ?_ | refine za5 ?_ | refine zae ?_ | refine zbn rfl ?_ | refine za1 rfl ?_)
   refine zat rfl rfl p49 noC ?_
   repeat (first | refine za8 ?_ | refine za5 ?_ | refine zau ?_ | refine za1 rfl ?_)
   exact zao ⟨.inr rfl, _, rfl, rfl⟩
 ·rw [zga hg, pthV_err hg]
  repeat (first | refine za7 ?_ | refine za0 rfl ?_ | refine za8 ?_ | refine za5 ?_ | refine za1 rfl ?_ | refine zb0 rfl rfl ?_)
  refine zam rfl rfl rfl (fun h => ?_) fun h => absurd (by simpa using h) hg
  repeat (first | refine za7 ?_ | refine za0 rfl ?_ | refine za8 ?_ | refine za5 ?_ | refine zbz rfl ?_ | refine zau ?_ | refine zak ?_ | refine za1 rfl ?_)
  exact zao ⟨.inr rfl, _, rfl, rfl⟩
def lstF (back : List Int) (b : Int) (w : Nat) : Int := if gI back w ≥ 0 ∧ (b < 0 ∨ gI back w < gI back b.toNat) then (w : Nat) else b
def zhi (back : List Int) (l : List Nat) : Int := l.foldl (lstF back) (-1)
structure LsW (back : List Int) (l : List Nat) (b : Int) : Prop where
 none_ : b < 0 → b = -1 ∧ ∀ w ∈ l, gI back w < 0
 some_ : 0 ≤ b → b.toNat ∈ l ∧ 0 ≤ gI back b.toNat
theorem lsW (back : List Int) : ∀ l : List Nat, LsW back l (zhi back l) := by
 intro l
 induction l using zfj with
 | h0 => exact ⟨fun _ => ⟨rfl, fun w h => absurd h y0h⟩, fun h => absurd h (by show ¬ (0 : Int) ≤ -1; decide)⟩
 | h1 l w ih =>
  unfold zhi at ih ⊢
  rw [y1y, y23, List.foldl_nil]
  generalize l.foldl (lstF back) (-1) = b at *
  unfold lstF
  by_cases c : gI back w ≥ 0 ∧ (b < 0 ∨ gI back w < gI back b.toNat)
  ·rw [if_pos c]
   refine ⟨fun h => by omega, fun _ => ?_⟩
   rw [y0t]
   exact ⟨by simp, c.1⟩
  ·rw [if_neg c]
   refine ⟨fun h => ?_, fun h => ?_⟩
   ·obtain ⟨a, d⟩ := ih.none_ h
    refine ⟨a, fun x hx => ?_⟩
    rcases y0p.1 hx with hx | hx
    ·exact d x hx
    ·obtain rfl := y0f.1 hx
     refine Int.not_le.1 fun h2 => c ⟨h2, .inl h⟩
   ·obtain ⟨a, d⟩ := ih.some_ h
    exact ⟨y0k _ a, d⟩
theorem ls_ld {E : List (Nat × Nat)} {m v : Nat} (hb : ∀ u v, (u, v) ∈ E → u < m ∧ v < m) (hv : v < m) : zhi (zet (rvE E) m v m) (nbr E m v) < 0 ↔ ldB E m v v = false := by
 have h := lsW (zet (rvE E) m v m) (nbr E m v)
 have hmem : ∀ w, w ∈ nbr E m v ↔ (v, w) ∈ E := fun w => zbx fun u v h => (hb u v h).2
 constructor
 ·intro h0
  cases hc : ldB E m v v with
  | false => rfl
  | true =>
   unfold ldB at hc
   obtain ⟨e, he, h2⟩ := y2q.1 hc
   rw [y0g, beq_iff_eq, decide_eq_true_eq] at h2
   have he : (e.1, e.2) ∈ E := he
   rw [h2.1] at he
   have := (h.none_ h0).2 e.2 ((hmem _).2 he)
   rw [zto hb hv (hb _ _ he).2] at this
   omega
 ·intro h0
  refine Int.not_le.1 fun h1 => ?_
  obtain ⟨a, d⟩ := h.some_ h1
  have he := (hmem _).1 a
  rw [zto hb hv (hb _ _ he).2] at d
  have : ldB E m v v = true := by
   unfold ldB
   rw [y2q]
   exact ⟨(v, (zhi (zet (rvE E) m v m) (nbr E m v)).toNat), he, by rw [y0g, beq_iff_eq, decide_eq_true_eq]; exact ⟨rfl, d⟩⟩
  rw [this] at h0
  cases h0
def cycL (E : List (Nat × Nat)) (m v : Nat) : List Nat :=
 let back := zet (rvE E) m v m
 let x := (zhi back (nbr E m v)).toNat
 v :: (x :: zd7 E m back (gI back x).toNat x).take (gI back x).toNat
def cycN (m : Nat) (E : List (Nat × Nat)) : AV := match lpS E m with
 | some v => .tup [vsI (iL (cycL E m v)), .int .i64 0]
 | none => .tup [.vs [], .int .i64 6]
def cycV (n : Int) (es : List (Int × Int)) : AV := if zf9 n es = 0 then cycN n.toNat (es.map fun e => (e.1.toNat, e.2.toNat)) else .tup [.vs [], .int .i64 (zf9 n es)]
theorem ztb {m : Nat} {E : List (Nat × Nat)} (h : zf9 m (zbm E) = 0) : cycV m (zbm E) = cycN m E := by
 unfold cycV
 rw [if_pos h, zg5]
 rfl
theorem cycV_err {n : Int} {es : List (Int × Int)} (h : zf9 n es ≠ 0) : cycV n es = .tup [.vs [], .int .i64 (zf9 n es)] := if_neg h
section
variable {w0 : World} {N0 n d nx ck : Nat} {k : List Fr} {Q : Exit → AS → Prop} {hp : List (Nat × Nat × AObj)} {l : List (Nat × AV)} {ios : List Opr}
theorem ztt : ∀ q : List Int, q.map (AV.int .i64) = (q.map fun z => ([.int .i64 z] : List AV)).flatten
 | [] => rfl
 | y :: q => by rw [y16, y16, y1t, ztt q]; rfl
theorem o_slvs {pf : Kn} {sz : Nat} {ax : Arg} {es : List (List AV)} {ah : Arg} {kd : IntKind} {h : Nat} (hx : zb6 ax l = some (.vs es)) (h3 : zb6 ah l = some (.int kd (h : Nat))) (hb : h ≤ es.length) (hs : es.all (·.length == sz) = true)
  (go : Om Try.prog w0 N0 none pf ios (st n ((d, .vs (es.take h)) :: l) hp nx ck) k Q) : Om Try.prog w0 N0 none pf (⟨some d, .slsl sz ax none (some ah) none, none⟩ :: ios) (st n l hp nx ck) k Q := by
 have e2 : zom sz (.vs es) none (some (.int kd (h : Nat))) none = some (.vs (es.take h)) := by
  show (if 0 ≤ (0 : Int) ∧ (0 : Int) ≤ ((h : Nat) : Int) ∧ ((h : Nat) : Int) ≤ es.length ∧ es.all (·.length == sz) = true then some (AV.vs ((es.drop (0 : Int).toNat).take (((h : Nat) : Int).toNat - (0 : Int).toNat))) else none) = _
  rw [if_pos ⟨y1e 0, y0y h, by omega, hs⟩]
  simp
 have h3' : zri (some ah) l = some (some (.int kd (h : Nat))) := by simp only [zri, h3]
 have hi : iop (st n l hp nx ck) (.slsl sz ax none (some ah) none) = some (.vs (es.take h), st n l hp nx ck) := by
  have e3 : (st n l hp nx ck []).oarg (some ah) = some (some (.int kd (h : Nat))) := (zod (some ah)).trans h3'
  have e5 : (st n l hp nx ck []).oarg none = some none := rfl
  simp only [iop, zaq, hx, e3, e5, e2]
  rfl
 exact zdt hi go trivial
theorem o_alit {bytes id sp a : Nat} {z : List AV} {s x : Arg} {q : List Int} (hq : q.length ≤ 1000000) (hs : zb6 s l = some (.ms id sp 1 0 1 (some 1))) (hl : Am.look id hp = some (sp, .cells [.int .i64 (a : Nat)])) (hn : id < nx) (hx : zb6 x l = some (vsI q)) (hb : bytes ≤ 16777216)
  (go : ∀ w hp' nx' ck', Wq hp' nx' ((a : Nat) :: q) w → Om Try.prog w0 N0 none (KnP Try.prog w0 N0) ios (st n ((d, w) :: l) hp' nx' ck') k Q) : Om Try.prog w0 N0 none (KnP Try.prog w0 N0) (⟨some d, .append 1 bytes z s x, none⟩ :: ios) (st n l hp nx ck) k Q := by
 have hel : ∀ l, (st n l hp nx ck []).elems 1 (vsI q) = some (q.map fun z => [.int .i64 z]) := fun l => zpg fun x hx => by obtain ⟨s, _, rfl⟩ := y0i.1 hx; rfl
 cases q with
 | nil =>
  have hi : iop (st n l hp nx ck) (.append 1 bytes z s x) = some (.ms id sp 1 0 1 (some 1), st n l hp nx ck) := by
   simp only [iop, zaq, hs, hx, hel]
   rfl
  exact zdt hi (go _ _ _ _ (.lit _ rfl hl hn)) (fun _ _ _ _ _ _ _ => rfl)
 | cons y q =>
  have hfl := ztt (y :: q)
  have hi : iop (st n l hp nx ck) (.append 1 bytes z s x) = some (.ms nx ck 1 0 (1 + (y :: q).length) none, st n l ((nx, ck, .cells ((((a : Nat) : Int) :: y :: q).map (AV.int .i64))) :: hp) (nx + 1) (ck + 1)) := by
   simp only [iop, zaq, hs, hx, hel]
   unfold zbg
   rw [if_neg (by rw [y04, y0r]; omega), if_pos ⟨by rw [← hfl]; exact y0e.2 fun x hx => by obtain ⟨s, _, rfl⟩ := y0i.1 hx; rfl, hb⟩]
   simp only [show (st n l hp nx ck []).heap = hp from rfl, hl]
   rw [if_pos ⟨trivial, trivial, y0c 1, by rw [y04]; omega⟩, if_neg (by rw [y04, y0r]; omega), y04, ← hfl]
   rfl
  exact zdt hi (go _ _ _ _ (.gen (Nat.add_comm 1 _) zah (y0q _))) (fun _ _ _ _ _ _ _ => rfl)
end
def gN (l : List Nat) (i : Nat) : Nat := l.getD i 0
theorem gN_at {l : List Nat} {i : Nat} (h : i < l.length) : l[i] = gN l i := by
 unfold gN
 rw [y0b, y07 h]
 rfl
theorem zvo {E : List (Nat × Nat)} {m t : Nat} {back : List Int} (hL : Lab (rvE E) m t back) (hb : ∀ u v, (u, v) ∈ E → u < m ∧ v < m) : ∀ (k v : Nat), gI back v = (k : Int) →
  (∀ i, i < k → (gN (v :: zd7 E m back k v) i, gN (v :: zd7 E m back k v) (i + 1)) ∈ E) ∧ gN (v :: zd7 E m back k v) k = t ∧ ∀ i, i ≤ k → gI back (gN (v :: zd7 E m back k v) i) = (k : Int) - i
 | 0, v, e => ⟨fun i h => absurd h (y28 _), hL.root v e, fun i h => by
   obtain rfl : i = 0 := by omega
   show gI back v = _
   rw [e]
   rfl⟩
 | k + 1, v, e => by
  obtain ⟨_, h1, _, h2⟩ := nxt_ok hL hb (show 0 < gI back v by omega)
  obtain ⟨a, b, c⟩ := zvo hL hb k (nxt E m back v) (by omega)
  refine ⟨fun i hi => ?_, b, fun i hi => ?_⟩
  ·cases i with
   | zero => exact h1
   | succ i => exact a i (by omega)
  ·cases i with
   | zero => show gI back v = _; rw [e]; omega
   | succ i =>
    have := c i (by omega)
    show gI back (gN (nxt E m back v :: zd7 E m back k (nxt E m back v)) i) = _
    omega
theorem gN_cons (x : Nat) (l : List Nat) (i : Nat) : gN (x :: l) (i + 1) = gN l i := by
 unfold gN
 rw [List.getD_cons_succ]
theorem gN_take {l : List Nat} {i k : Nat} (h : i < k) : gN (l.take k) i = gN l i := by
 unfold gN
 rw [y0b, y0b, List.getElem?_take, if_pos h]
structure CycP (E : List (Nat × Nat)) (m : Nat) (c : List Nat) : Prop where
 pos : 0 < c.length
 len : c.length ≤ m
 lt : ∀ i, i < c.length → gN c i < m
 edge : ∀ i, i < c.length → (gN c i, gN c ((i + 1) % c.length)) ∈ E
 diff : ∀ i j, i < j → j < c.length → gN c i ≠ gN c j
theorem cyc_ok {E : List (Nat × Nat)} {m v : Nat} (hb : ∀ u v, (u, v) ∈ E → u < m ∧ v < m) (hv : v < m) (hld : ldB E m v v = true) : CycP E m (cycL E m v) := by
 have hL := zek (es := rvE E) hv fun u v h => (zf5 hb u v h).2
 have hll := ls_ld hb hv
 have hW := lsW (zet (rvE E) m v m) (nbr E m v)
 have hcy : cycL E m v = v :: ((zhi (zet (rvE E) m v m) (nbr E m v)).toNat :: zd7 E m (zet (rvE E) m v m) (gI (zet (rvE E) m v m) (zhi (zet (rvE E) m v m) (nbr E m v)).toNat).toNat (zhi (zet (rvE E) m v m) (nbr E m v)).toNat).take (gI (zet (rvE E) m v m) (zhi (zet (rvE E) m v m) (nbr E m v)).toNat).toNat := rfl
 generalize zet (rvE E) m v m = back at *
 have h5 : ¬ zhi back (nbr E m v) < 0 := fun h => by rw [hll.1 h] at hld; cases hld
 obtain ⟨hx1, hx0⟩ := hW.some_ (by omega)
 generalize (zhi back (nbr E m v)).toNat = x at *
 have hvx := (zbx fun u v h => (hb u v h).2).1 hx1
 have hbl := zmn hL.len hL.down x
 obtain ⟨k, hk⟩ := y2h hx0
 rw [hk, y0t] at hcy
 obtain ⟨a, b, c⟩ := zvo hL hb k x hk
 have hpl : (x :: zd7 E m back k x).length = k + 1 := by rw [y0r, zgh]
 have hp0 : gN (x :: zd7 E m back k x) 0 = x := rfl
 generalize x :: zd7 E m back k x = p at *
 have hlen : (cycL E m v).length = k + 1 := by rw [hcy, y0r, y2g]; omega
 have c0 : gN (cycL E m v) 0 = v := by rw [hcy]; rfl
 have cs : ∀ j, j < k → gN (cycL E m v) (j + 1) = gN p j := fun j hj => by rw [hcy, gN_cons, gN_take hj]
 have hbm : ∀ y, 0 ≤ gI back y → y < m := fun y h => hL.len ▸ gI_lt h
 refine ⟨by omega, by omega, fun i hi => ?_, fun i hi => ?_, fun i j hij hj => ?_⟩
 ·cases i with
  | zero => rw [c0]; exact hv
  | succ j =>
   rw [cs j (by omega)]
   refine hbm _ ?_
   rw [c j (by omega)]
   omega
 ·rw [hlen]
  cases i with
  | zero =>
   rw [c0]
   cases k with
   | zero =>
    rw [show (0 + 1) % (0 + 1) = 0 from rfl, c0]
    have := hL.root x hk
    rw [← this] at hvx ⊢
    exact hvx
   | succ k =>
    rw [y2r (by omega), cs 0 (by omega), hp0]
    exact hvx
  | succ j =>
   have hj : j < k := by omega
   rw [cs j hj]
   by_cases e : j + 2 = k + 1
   ·rw [show j + 1 + 1 = k + 1 by omega, Nat.mod_self, c0]
    have := a j hj
    rw [show j + 1 = k by omega, b] at this
    exact this
   ·rw [y2r (by omega), cs (j + 1) (by omega)]
    exact a j hj
 ·obtain ⟨j, rfl⟩ : ∃ q, j = q + 1 := ⟨j - 1, by omega⟩
  rw [cs j (by omega)]
  intro e
  have h1 := c j (by omega)
  rw [← e] at h1
  cases i with
  | zero => rw [c0, hL.zero] at h1; omega
  | succ i =>
   rw [cs i (by omega), c i (by omega)] at h1
   omega
end Go.Proofs.Ytfbeableaihooaa
