/-
  THE ORDER: a growing list beside other memory; slices.Index; sorted walked.
-/
import Derived.Test.YtoagikifehmlpaaQP4
import Derived.Test.YtoagikifehmlpaaQF7
import Derived.Test.YtoagikifehmlpaaQJ6
namespace Go.Proofs.Ytoagikifehmlpaa
open Go Go.Am
def Gv (b : Nat) (q : List Int) (w : AV) (hp : List (Nat × Nat × AObj)) (nx : Nat) : Prop :=
 (q = [] ∧ w = .nils) ∨ ∃ id sp, w = .ms id sp 1 0 q.length none ∧ Am.look id hp = some (sp, .cells (q.map (AV.int .i64))) ∧ b < id ∧ id < nx
section
variable {b nx : Nat} {q : List Int} {w : AV} {hp : List (Nat × Nat × AObj)}
theorem Gv.fresh (h : Gv b q w hp nx) (ck : Nat) (x : AObj) : Gv b q w ((nx, ck, x) :: hp) (nx + 1) := by
 rcases h with h | ⟨id, sp, e, hl, h1, h2⟩
 ·exact .inl h
 ·exact .inr ⟨id, sp, e, by rw [za8, if_neg (by omega)]; exact hl, h1, by omega⟩
theorem Gv.put (h : Gv b q w hp nx) {i : Nat} (hi : i ≤ b) (x : Nat × AObj) : Gv b q w (zca i x hp) nx := by
 rcases h with h | ⟨id, sp, e, hl, h1, h2⟩
 ·exact .inl h
 ·exact .inr ⟨id, sp, e, by rw [za7, if_neg (by omega)]; exact hl, h1, h2⟩
theorem Gv.view {S : AS} {d : Nat} (h : Gv b q w S.heap nx) : S.view (d + 1) w = vsI q := by
 rcases h with ⟨rfl, rfl⟩ | ⟨id, sp, rfl, hl, _, _⟩
 ·rfl
 ·exact zco q rfl hl
theorem o_glen {w0 : World} {N0 n d ck : Nat} {k : List Fr} {Q : Exit → AS → Prop} {l : List (Nat × AV)} {ios : List Opr} {x : Arg} (hF : Gv b q w hp nx) (hx : zb3 x l = some w) (go : Om Try.prog w0 N0 none (KnP Try.prog w0 N0) ios (st n ((d, .int .i64 (q.length : Nat)) :: l) hp nx ck) k Q) : Om Try.prog w0 N0 none (KnP Try.prog w0 N0) (⟨some d, .len false x, none⟩ :: ios) (st n l hp nx ck) k Q := by
 rcases hF with ⟨rfl, rfl⟩ | ⟨id, sp, rfl, _, _, _⟩
 ·exact zbf hx rfl go
 ·exact zbf hx rfl go
theorem o_gapp {w0 : World} {N0 n d ck : Nat} {k : List Fr} {Q : Exit → AS → Prop} {l : List (Nat × AV)} {ios : List Opr} {bytes j sj : Nat} {x0 : Int} {z : List AV} {s x : Arg} (hF : Gv b q w hp nx) (hbn : b < nx) (hlen : q.length ≤ 1000000) (hs : zb3 s l = some w) (hx : zb3 x l = some (.ms j sj 1 0 1 (some 1))) (hj : Am.look j hp = some (sj, .cells [.int .i64 x0])) (hb : bytes ≤ 16777216)
  (go : ∀ w' hp' nx' ck', Gv b (q ++ [x0]) w' hp' nx' → b < nx' → (∀ i, i ≤ b → Am.look i hp' = Am.look i hp) → Om Try.prog w0 N0 none (KnP Try.prog w0 N0) ios (st n ((d, w') :: l) hp' nx' ck') k Q) :
  Om Try.prog w0 N0 none (KnP Try.prog w0 N0) (⟨some d, .append 1 bytes z s x, none⟩ :: ios) (st n l hp nx ck) k Q := by
 have hel : ∀ l, (st n l hp nx ck []).elems 1 (.ms j sj 1 0 1 (some 1)) = some [[.int .i64 x0]] := fun l => zdc (xs := [[.int .i64 x0]]) (ys := []) hj rfl fun x hx => by obtain rfl := List.mem_singleton.1 hx; rfl
 rcases hF with ⟨rfl, rfl⟩ | ⟨id, sp, rfl, hl, h1, h2⟩
 ·have hi : iop (st n l hp nx ck) (.append 1 bytes z s x) = some (.ms nx ck 1 0 1 none, st n l ((nx, ck, .cells [.int .i64 x0]) :: hp) (nx + 1) (ck + 1)) := by
   simp only [iop, zam, hs, hx, hel]
   unfold zb7
   rw [if_neg (show ¬ [[AV.int .i64 x0]].length = 0 from Nat.succ_ne_zero 0), if_pos (show [[AV.int .i64 x0]].flatten.all AV.isCell = true ∧ bytes ≤ 16777216 from ⟨rfl, hb⟩)]
   rfl
  exact ze9 hi (go _ _ _ _ (.inr ⟨nx, ck, rfl, zb5, hbn, Nat.lt_succ_self _⟩) (by omega) fun i hi => by rw [za8, if_neg (by omega)]) (fun _ _ _ _ _ _ _ => rfl)
 ·refine ze7 [[.int .i64 x0]] hs hx (hel _) (fun h => Nat.noConfusion h) rfl hb hl (by rw [List.length_map, Nat.mul_one]) (by show _ + 1 ≤ _; omega) ?_ (fun _ _ _ _ _ _ _ => rfl)
  refine go _ _ _ _ (.inr ⟨id, ck, by rw [List.length_append]; rfl, by rw [za7, if_pos rfl, List.map_append]; rfl, h1, h2⟩) hbn fun i hi => by rw [za7, if_neg (by omega)]
end
theorem gZ_get {o : List Int} {v : Nat} (h : v < o.length) : (o.map (AV.int .i64))[v]? = some (.int .i64 (gZ o v)) := by
 unfold gZ
 rw [List.getElem?_map, List.getD_eq_getElem?_getD, List.getElem?_eq_getElem h]
 rfl
theorem gZ_at {o : List Int} {i : Nat} (h : i < o.length) : o[i] = gZ o i := by
 unfold gZ
 rw [List.getD_eq_getElem?_getD, List.getElem?_eq_getElem h]
 rfl
def b26_0 : IC := .seq (.region [⟨(some 9), .bin .lss (.t 8) (.t 7), none⟩] none)
 (.seq (.cond (.t 9) (.skip)
 (.exit 0))
 (.seq (.block 1 (.seq (.region [⟨(some 10), .mov (.t 8), none⟩,
  ⟨(some 5), .mov (.t 10), none⟩] none)
 (.seq (.region [⟨(some 11), .mov (.t 1), none⟩,
  ⟨(some 12), .mov (.t 0), none⟩,
  ⟨(some 13), .mov (.t 5), none⟩,
  ⟨(some 14), .idxs 1 (.t 12) (.t 13), none⟩,
  ⟨(some 15), .load none (.t 14), none⟩,
  ⟨(some 16), .bin .eql (.t 11) (.t 15), none⟩] none)
 (.cond (.t 16) (.seq (.region [⟨(some 17), .mov (.t 5), none⟩,
  ⟨(some 4), .mov (.t 17), none⟩] none)
 (.ret))
 (.skip)))))
 (.region [⟨(some 18), .bin .add (.t 8) (.c (.int .i64 1)), none⟩,
  ⟨(some 8), .mov (.t 18), none⟩] none)))
-- slices.Index[[]int,int]
def ic26 : IC := .seq (.region [⟨(some 4), .mov (.c (.int .i64 0)), none⟩] none)
 (.seq (.seq (.region [⟨(some 6), .mov (.t 0), none⟩,
  ⟨(some 7), .len false (.t 6), none⟩,
  ⟨(some 8), .mov (.c (.int .i64 0)), none⟩] none)
 (.block 0 (.loop b26_0)))
 (.seq (.region [⟨(some 4), .mov (.c (.int .i64 (-1))), none⟩] none)
 (.ret)))
theorem fn26 : env0.fn 26 = some ⟨19, ic26, [.t 4]⟩ := by kernel_rfl
set_option maxHeartbeats 1000000 in
theorem zk1 (a : List Int) (x : Int) (ha : a.length ≤ 1000000) : PF Try.prog 26 [vsI a, .int .i64 x] (.int .i64 (dnx (fun i => gZ a i == x) a.length 0)) := by
 have hva : (a.map fun z => ([.int .i64 z] : List AV)).length = a.length := List.length_map ..
 refine zb4 env0_ok fn26 [(0, vsI a), (1, .int .i64 x)] (by show 2 ≤ 19; decide) rfl fun w0 N0 => ?_
 unfold ic26
 repeat (first | refine za6 ?_ | refine za0 rfl ?_ | refine za5 ?_ | refine za3 ?_ | refine zae ?_ | refine za2 rfl ?_ | refine zbf rfl rfl ?_)
 refine zbx (fun mm S => ∃ i, mm = a.length - i ∧ i ≤ a.length ∧ dnx (fun i => gZ a i == x) a.length i = dnx (fun i => gZ a i == x) a.length 0 ∧ S = st 19 [(0, vsI a), (1, .int .i64 x), (7, .int .i64 (a.length : Nat)), (8, .int .i64 (i : Nat))] [] 0 0) a.length
  (za9 (.cons rfl (.cons rfl (.cons (by rw [← hva]; rfl) (.cons rfl .nil))))) ⟨0, rfl, Nat.zero_le _, rfl, rfl⟩ ?_
 rintro mm S ⟨i, rfl, hi, hd, rfl⟩
 unfold b26_0
 repeat (first | refine za6 ?_ | refine za0 rfl ?_)
 refine zau rfl rfl rfl (fun h3 => ?_) fun h3 => ?_
 ·have hlt : i < a.length := Int.ofNat_lt.1 (of_decide_eq_true h3)
  have w1 : IntKind.wrap .i64 (((i : Nat) : Int) + 1) = ((i + 1 : Nat) : Int) := zar i (by omega)
  have hg : (a.map fun z => ([.int .i64 z] : List AV))[((i : Nat) : Int).toNat]? = some [.int .i64 (gZ a i)] := by rw [zdn hlt, gZ_at]
  rw [zjo hlt] at hd
  repeat (first | refine za6 ?_ | refine za0 rfl ?_ | refine za5 ?_ | refine za3 ?_ | refine zae ?_ | refine zad ?_ | refine zcp rfl ?_ | refine za2 rfl ?_ | refine zaf rfl rfl ?_ | refine zaw rfl rfl (by omega) (by assumption) rfl ?_)
  refine zau rfl rfl rfl (fun h4 => ?_) fun h4 => ?_
  ·have h4 : x = gZ a i := by simpa using h4
   rw [if_pos (by simp [h4])] at hd
   rw [← hd]
   repeat (first | refine za6 ?_ | refine za0 rfl ?_ | refine za5 ?_ | refine za3 ?_ | refine zcp rfl ?_ | refine zaq ?_ | refine zac ?_ | refine zba ?_ | refine za2 rfl ?_)
   exact zao ⟨.inr rfl, _, rfl, rfl⟩
  ·have h4 : ¬ x = gZ a i := by simpa using h4
   rw [if_neg (by simp; exact fun e => h4 e.symm)] at hd
   repeat (first | refine za0 rfl ?_ | refine za5 ?_ | refine za3 ?_ | refine zcb ?_ | refine zad ?_ | refine zce rfl ?_ | refine za2 rfl ?_ | refine zbe (op := .add) rfl rfl rfl ?_)
   rw [w1]
   exact zay (show a.length - (i + 1) < a.length - i by omega) (za9 (.cons rfl (.cons rfl (.cons rfl (.cons rfl .nil))))) ⟨i + 1, rfl, hlt, hd, rfl⟩
 ·have hi2 : i = a.length := by
   have : ¬ i < a.length := fun h => of_decide_eq_false h3 (Int.ofNat_lt.2 h)
   omega
  subst hi2
  rw [zmf] at hd
  rw [← hd]
  repeat (first | refine za6 ?_ | refine za5 ?_ | refine za3 ?_ | refine zce rfl ?_ | refine zbw ?_ | refine zag ?_)
  refine zdb ?_
  repeat (first | refine za6 ?_ | refine za0 rfl ?_ | refine za5 ?_ | refine za3 ?_ | refine zaq ?_ | refine zbv ?_ | refine za2 rfl ?_)
  exact zao ⟨.inr rfl, _, rfl, rfl⟩
end Go.Proofs.Ytoagikifehmlpaa
