/-
  THE FIRST COVER: setcover.Fewest.
-/
import Derived.Test.YtknomkcdpcnmaaaEVA
import Derived.Test.YtknomkcdpcnmaaaES0
namespace Go.Proofs.Ytknomkcdpcnmaaa
open Go Go.Am
-- pneumatic/setcover.limited
def ic41 : IC := .seq (.region [⟨(some 1), .box (.t 0), none⟩,
  ⟨(some 2), .mov (.c (.int .i64 0)), none⟩] none)
 (.seq (.seq (.region [⟨(some 4), .load (some 2) (.t 1), none⟩,
  ⟨(some 5), .call (.c (.fn 37 [] [])) [(.t 4)], none⟩,
  ⟨(some 3), .mov (.t 5), none⟩] none)
 (.seq (.region [⟨(some 6), .mov (.t 3), none⟩,
  ⟨(some 7), .bin .neq (.t 6) (.c (.int .i64 0)), none⟩] none)
 (.cond (.t 7) (.seq (.region [⟨(some 8), .mov (.t 3), none⟩,
  ⟨(some 2), .mov (.t 8), none⟩] none)
 (.ret))
 (.skip))))
 (.seq (.seq (.region [⟨(some 9), .faddr 1 (.t 1), none⟩,
  ⟨(some 10), .load none (.t 9), none⟩,
  ⟨(some 11), .len false (.t 10), none⟩,
  ⟨(some 12), .bin .gtr (.t 11) (.c (.int .i64 16)), none⟩] none)
 (.cond (.t 12) (.seq (.region [⟨(some 2), .mov (.c (.int .i64 12)), none⟩] none)
 (.ret))
 (.skip)))
 (.seq (.region [⟨(some 2), .mov (.c (.int .i64 0)), none⟩] none)
 (.ret))))
theorem fn41 : env0.fn 41 = some ⟨13, ic41, [.t 2]⟩ := by kernel_rfl
noncomputable def zk0 : Code := match env0.fn 24 with
 | some i => ((ze0 i.ic)[0]?.getD (.skip, .skip)).1
 | none => .skip
noncomputable def zk1 : Code := match env0.fn 24 with
 | some i => ((ze0 i.ic)[0]?.getD (.skip, .skip)).2
 | none => .skip
def znz : IC := .region [⟨(some 6), .mov (.t 24), none⟩] none
def zve : IC := .block 3 (.seq (.region [⟨(some 25), .load (some 2) (.t 1), none⟩,
  ⟨(some 26), .mov (.t 6), none⟩,
  ⟨(some 27), .call (.c (.fn 57 [] [])) [(.t 25), (.t 26)], none⟩,
  ⟨(some 28), .faddr 0 (.t 1), none⟩,
  ⟨(some 29), .load none (.t 28), none⟩,
  ⟨(some 30), .call (.c (.fn 43 [] [])) [(.t 29)], none⟩,
  ⟨(some 31), .bin .eql (.t 27) (.t 30), none⟩] (some [[], [], [0, 1], [], [3], [4, 2], [2, 5]]))
 (.cond (.t 31) (.seq (.region [⟨(some 32), .mov (.t 6), none⟩,
  ⟨none, .store 1 (.t 2) (.t 32), none⟩,
  ⟨none, .store 1 (.t 3) (.c (.int .i64 0)), none⟩] none)
 (.ret))
 (.skip)))
noncomputable def b24_0 : IC := .seq (.region [⟨(some 17), .bin .lss (.t 16) (.t 15), none⟩] none)
 (.seq (.cond (.t 17) (.skip)
 (.exit 0))
 (.seq (.block 1 (.seq (.region [⟨(some 18), .mov (.t 16), none⟩,
  ⟨(some 5), .mov (.t 18), none⟩] none)
 (.seq (.region [⟨(some 19), .faddr 1 (.t 1), none⟩,
  ⟨(some 20), .load none (.t 19), none⟩,
  ⟨(some 21), .len false (.t 20), none⟩,
  ⟨(some 22), .mov (.t 5), none⟩,
  ⟨(some 23), .call (.c (.fn 56 [] [])) [(.t 21), (.t 22)], none⟩] none)
 (.block 2 (.rangeFunc (.t 23) [24] zk0 zk1 znz zve)))))
 (.region [⟨(some 33), .bin .add (.t 16) (.c (.int .i64 1)), none⟩,
  ⟨(some 16), .mov (.t 33), none⟩] none)))
-- pneumatic/setcover.Fewest
noncomputable def ic24 : IC := .seq (.region [⟨(some 1), .box (.t 0), none⟩,
  ⟨(some 2), .alloc [.nils], none⟩,
  ⟨(some 3), .alloc [.int .i64 0], none⟩] none)
 (.seq (.seq (.region [⟨(some 7), .load (some 2) (.t 1), none⟩,
  ⟨(some 8), .call (.c (.fn 41 [] [])) [(.t 7)], none⟩,
  ⟨(some 4), .mov (.t 8), none⟩] none)
 (.seq (.region [⟨(some 9), .mov (.t 4), none⟩,
  ⟨(some 10), .bin .neq (.t 9) (.c (.int .i64 0)), none⟩] none)
 (.cond (.t 10) (.seq (.region [⟨(some 11), .mov (.t 4), none⟩,
  ⟨none, .store 1 (.t 2) (.c (.nils)), none⟩,
  ⟨none, .store 1 (.t 3) (.t 11), none⟩] none)
 (.ret))
 (.skip))))
 (.seq (.seq (.region [⟨(some 12), .faddr 1 (.t 1), none⟩,
  ⟨(some 13), .load none (.t 12), none⟩,
  ⟨(some 14), .len false (.t 13), none⟩,
  ⟨(some 15), .bin .add (.t 14) (.c (.int .i64 1)), none⟩,
  ⟨(some 16), .mov (.c (.int .i64 0)), none⟩] none)
 (.block 0 (.loop b24_0)))
 (.seq (.region [⟨none, .store 1 (.t 2) (.c (.nils)), none⟩,
  ⟨none, .store 1 (.t 3) (.c (.int .i64 6)), none⟩] none)
 (.ret))))
theorem fn24 : env0.fn 24 = some ⟨34, ic24, [.cell 2 none, .cell 3 none]⟩ := by kernel_rfl
def zn9 (n : Int) (s : List (BitVec 64)) : Int := if ze8 n s = 0 then (if s.length > 16 then 12 else 0) else ze8 n s
theorem zj5 (n : Int) (s : List (BitVec 64)) : PF Try.prog 41 [cF n s] (.int .i64 (zn9 n s)) := by
 have pC := zo5 n s
 have hcl := zbh s
 refine zbd env0_ok fn41 [(0, cF n s)] (by show 1 ≤ 13; decide) rfl fun w0 N0 => ?_
 unfold ic41 zn9
 refine za6 (za0 rfl (zd7 (cs := [.int .i64 n, .vs (cUs s)]) rfl rfl (za1 rfl (za3 (za4 ?_)))))
 refine zd0 [] [(0, 0, [.int .i64 n, .vs (cUs s)])] [(1, .vptr [.int .i64 n, .vs (cUs s)])] rfl (.cons rfl rfl .nil) .nil (.cons rfl (.fptr rfl rfl) .nil) ?_
 repeat (first | refine za6 ?_ | refine za0 rfl ?_ | refine zb2 rfl rfl rfl rfl ?_)
 refine zay rfl rfl pC (fun h => Bool.noConfusion (show false = true from h)) ?_
 by_cases hc : ze8 n s = 0
 ·rw [if_pos hc, hc]
  repeat (first | refine za6 ?_ | refine za0 rfl ?_ | refine za3 ?_ | refine za4 ?_ | refine zad ?_ | refine zbt rfl ?_ | refine za1 rfl ?_ | refine zah rfl rfl ?_ | refine za9 rfl rfl rfl ?_ | refine zbf rfl rfl ?_ | refine zb5 rfl rfl rfl ?_)
  refine zax rfl rfl rfl (fun h => ?_) fun h => ?_
  ·have h : (((cUs s).length : Nat) : Int) > 16 := of_decide_eq_true h
   rw [if_pos (by omega)]
   repeat (first | refine za6 ?_ | refine za0 rfl ?_ | refine za3 ?_ | refine za4 ?_ | refine zc1 rfl ?_ | refine zas ?_ | refine za8 ?_ | refine za1 rfl ?_)
   exact zal ⟨.inr rfl, _, rfl, rfl⟩
  ·have h : ¬ (((cUs s).length : Nat) : Int) > 16 := of_decide_eq_false h
   rw [if_neg (by omega)]
   repeat (first | refine za6 ?_ | refine za0 rfl ?_ | refine za3 ?_ | refine za4 ?_ | refine zad ?_ | refine zbt rfl ?_ | refine zas ?_ | refine za1 rfl ?_)
   exact zal ⟨.inr rfl, _, rfl, rfl⟩
 ·rw [if_neg hc]
  repeat (first | refine za6 ?_ | refine za0 rfl ?_ | refine za3 ?_ | refine za4 ?_ | refine za1 rfl ?_)
  refine zax rfl rfl rfl (fun h => ?_) fun h => absurd (by simpa using h) hc
  repeat (first | refine za6 ?_ | refine za0 rfl ?_ | refine za3 ?_ | refine za4 ?_ | refine zc1 rfl ?_ | refine zas ?_ | refine za8 ?_ | refine za1 rfl ?_)
  exact zal ⟨.inr rfl, _, rfl, rfl⟩
theorem zuq {n : Int} {s : List (BitVec 64)} (h : zn9 n s = 0) : ze8 n s = 0 ∧ s.length ≤ 16 := by
 unfold zn9 at h
 split at h
 ·rename_i h1
  split at h
  ·exact absurd h (by decide)
  ·exact ⟨h1, by omega⟩
 ·rename_i hc; exact absurd h hc
def zvw (n : Int) (s : List (BitVec 64)) (_ : Unit) (c : List Int) : Unit ⊕ List Int := if zs7 n s c = true then .inr c else .inl ()
theorem zk6 (n : Int) (s : List (BitVec 64)) : ∀ L : List (List Int), ze9 (zvw n s) L () = match L.find? (zs7 n s) with | some c => .inr c | none => .inl ()
 | [] => rfl
 | c :: L => by
  rw [ze9, List.find?_cons]
  unfold zvw
  cases zs7 n s c with
  | true => rfl
  | false => exact zk6 n s L
def zny (N k m : Nat) : List (List Int) := (List.range' k m).flatMap fun j => asc N j 0
theorem zsy (N k m : Nat) : zny N k (m + 1) = asc N k 0 ++ zny N (k + 1) m := by
 unfold zny
 rw [List.range'_succ, List.flatMap_cons]
def fewO (n : Int) (s : List (BitVec 64)) : Option (List Int) := (zny s.length 0 (s.length + 1)).find? (zs7 n s)
def fewV (n : Int) (s : List (BitVec 64)) : AV := if zn9 n s = 0 then (match fewO n s with | some c => .tup [vsI c, .int .i64 0] | none => .tup [.vs [], .int .i64 6]) else .tup [.vs [], .int .i64 (zn9 n s)]
structure I24 (D : Nat) (ltm : List (Nat × AV)) (_ : Unit) (H : HS) : Prop where
 nx : D + 2 ≤ H.next
 h4 : Am.look (D + 1) H.heap = some (2, .loop .ready none 34 (zgt ltm) [24] zk0 zk1 (D, 1))
 h3 : Am.look D H.heap = some (1, .deferred)
 r0 : Am.look 0 H.heap = some (0, .cells [.nils])
 r1 : Am.look 1 H.heap = some (0, .cells [.int .i64 0])
structure J24 (D : Nat) (p : List Int) (H : HS) : Prop where
 nx : D + 2 ≤ H.next
 h4 : ∃ tm, Am.look (D + 1) H.heap = some (2, .loop .done (some .ret) 34 tm [24] zk0 zk1 (D, 1))
 h3 : Am.look D H.heap = some (1, .deferred)
 r0 : Am.look 0 H.heap = some (0, .cells [vsI p])
 r1 : Am.look 1 H.heap = some (0, .cells [.int .i64 0])
def M24 (D : Nat) (i : Nat) : Prop := i < 2 ∨ i = D ∨ i = D + 1
theorem local24 {D : Nat} (hD : 2 ≤ D) (ltm : List (Nat × AV)) : Local (M24 D) (I24 D ltm) :=
 ⟨fun s H h i hi => by have := h.nx; rcases hi with hi | hi | hi <;> omega, fun s H H' h hn hl =>
  ⟨Nat.le_trans h.nx hn, (hl (D + 1) (.inr (.inr rfl))).trans h.h4, (hl D (.inr (.inl rfl))).trans h.h3, (hl 0 (.inl (by decide))).trans h.r0, (hl 1 (.inl (by decide))).trans h.r1⟩⟩
def l24 (n : Int) (s : List (BitVec 64)) (k : Nat) : List (Nat × AV) := [(1, .vptr [.int .i64 n, .vs (cUs s)]), (2, .mptr 0 0 0), (3, .mptr 1 0 0), (15, .int .i64 ((s.length + 1 : Nat) : Int)), (16, .int .i64 (k : Nat)), (23, .fn 67 [] [.vptr [.int .i64 (k : Nat)], .vptr [.int .i64 (s.length : Nat)]])]
set_option maxHeartbeats 2000000 in
theorem yield24 {w0 : World} {N0 D : Nat} (hD : 2 ≤ D) {n : Int} {s : List (BitVec 64)} (hc : ze8 n s = 0) (k : Nat) (ha : Com Try.prog zk0 znz) (hb : Com Try.prog zk1 zve) (u : Unit) (p : List Int) (H : HS) (hp : p.length ≤ 1000000 ∧ ∀ z ∈ p, 0 ≤ z ∧ z < s.length) (h : I24 D (l24 n s k) u H) :
  CT Try.prog w0 N0 (.yield (D + 1) 2) [vsI p] H (Left (M24 D) (I24 D (l24 n s k)) (J24 D) H (zvw n s u p)) := by
 obtain ⟨nx, h4, h3, r0, r1⟩ := h
 obtain ⟨n0, n1, s1, _⟩ := zf2 hc
 have pU := union57 n s p hp.1 hp.2
 have pA := zsm n0 n1
 refine ct_yield (l0 := (24, vsI p) :: l24 n s k) h4 ha hb rfl (by decide) rfl ?_
 unfold znz
 repeat (first | refine za0 rfl ?_ | refine za3 ?_ | refine za1 rfl ?_)
 refine zal ⟨rfl, _, rfl, ?_⟩
 unfold zve l24 zvw
 repeat (first | refine za6 ?_ | refine zai ?_)
 refine zjt env0_ok [(57, [cF n s, vsI p], cU (uni s p)), (43, [.int .i64 n], cU (zce n))] (fun x hx => by
  rcases List.mem_cons.1 hx with rfl | hx
  ·exact pU
  obtain rfl := List.mem_singleton.1 hx
  exact pA) (fun f => Nat.beq f 57 || Nat.beq f 43) rfl rfl rfl ?_
 repeat (first | refine za1 rfl ?_ | refine zb2 rfl rfl rfl rfl ?_)
 refine zay rfl rfl zfm (fun h => Bool.noConfusion (show false = true from h)) ?_
 repeat (first | refine zah rfl rfl ?_ | refine za9 rfl rfl rfl ?_)
 refine zay rfl rfl (zrj (by decide) zfm) (fun h => Bool.noConfusion (show false = true from h)) ?_
 refine zax rfl rfl (zdf _ _) (fun h6 => ?_) fun h6 => ?_
 ·rw [show zs7 n s p = true from h6, if_pos rfl]
  repeat (first | refine za6 ?_ | refine za0 rfl ?_ | refine za3 ?_ | refine za4 ?_ | refine zc1 rfl ?_ | refine za1 rfl ?_)
  refine zb9 (sp := 0) rfl rfl rfl rfl (by (repeat (first | rw [za5, if_pos rfl] | rw [za5, if_neg (by omega)] | rw [zaj, if_neg (by omega)])); all_goals (first | rfl | assumption)) rfl rfl ?_
  refine zb9 (sp := 0) rfl rfl rfl rfl (by (repeat (first | rw [za5, if_pos rfl] | rw [za5, if_neg (by omega)] | rw [zaj, if_neg (by omega)])); all_goals (first | rfl | assumption)) rfl rfl ?_
  repeat (first | refine za3 ?_ | refine za4 ?_ | refine zas ?_ | refine zab ?_)
  refine zal ⟨34, zgt (l24 n s k), [24], zk0, zk1, (D, 1), ?_, some .ret, rfl, ⟨Nat.le_refl _, Nat.le_refl _, fun j hj _ => ?_⟩, rfl, ⟨nx, ⟨zgt (l24 n s k), ?_⟩, ?_, ?_, ?_⟩⟩
  ·show Am.look (D + 1) (zaz 1 _ (zaz 0 _ (zaz (D + 1) _ H.heap))) = _
   exact (by (repeat (first | rw [za5, if_pos rfl] | rw [za5, if_neg (by omega)] | rw [zaj, if_neg (by omega)])); all_goals (first | rfl | assumption))
  ·show Am.look j (zaz (D + 1) _ (zaz 1 _ (zaz 0 _ (zaz (D + 1) _ H.heap)))) = _
   have h1 : D + 1 ≠ j := fun e => hj (.inr (.inr e.symm))
   have h2 : 2 ≤ j := Nat.le_of_not_lt fun e => hj (.inl e)
   rw [za5, if_neg h1, za5, if_neg (by omega), za5, if_neg (by omega), za5, if_neg h1]
  ·show Am.look (D + 1) (zaz (D + 1) _ _) = _
   rw [za5, if_pos rfl]; rfl
  ·show Am.look D (zaz (D + 1) _ (zaz 1 _ (zaz 0 _ (zaz (D + 1) _ H.heap)))) = _
   exact (by (repeat (first | rw [za5, if_pos rfl] | rw [za5, if_neg (by omega)] | rw [zaj, if_neg (by omega)])); all_goals (first | rfl | assumption))
  ·show Am.look 0 (zaz (D + 1) _ (zaz 1 _ (zaz 0 _ (zaz (D + 1) _ H.heap)))) = _
   exact (by (repeat (first | rw [za5, if_pos rfl] | rw [za5, if_neg (by omega)] | rw [zaj, if_neg (by omega)])); all_goals (first | rfl | assumption))
  ·show Am.look 1 (zaz (D + 1) _ (zaz 1 _ (zaz 0 _ (zaz (D + 1) _ H.heap)))) = _
   exact (by (repeat (first | rw [za5, if_pos rfl] | rw [za5, if_neg (by omega)] | rw [zaj, if_neg (by omega)])); all_goals (first | rfl | assumption))
 ·rw [show zs7 n s p = false from h6, if_neg (by decide)]
  repeat (first | refine za3 ?_ | refine za4 ?_ | refine zbj ?_ | refine zad ?_ | refine zbt rfl ?_)
  refine zal ⟨34, zgt (l24 n s k), [24], zk0, zk1, (D, 1), ?_, none, rfl, ⟨Nat.le_refl _, Nat.le_refl _, fun j hj _ => ?_⟩, rfl, ⟨nx, ?_, ?_, ?_, ?_⟩⟩
  ·show Am.look (D + 1) (zaz (D + 1) _ H.heap) = _
   exact (by (repeat (first | rw [za5, if_pos rfl] | rw [za5, if_neg (by omega)] | rw [zaj, if_neg (by omega)])); all_goals (first | rfl | assumption))
  ·show Am.look j (zaz (D + 1) _ (zaz (D + 1) _ H.heap)) = _
   rw [za5, if_neg (fun e => hj (.inr (.inr e.symm))), za5, if_neg (fun e => hj (.inr (.inr e.symm)))]
  ·show Am.look (D + 1) (zaz (D + 1) _ _) = _
   rw [za5, if_pos rfl]; rfl
  ·show Am.look D (zaz (D + 1) _ (zaz (D + 1) _ H.heap)) = _
   exact (by (repeat (first | rw [za5, if_pos rfl] | rw [za5, if_neg (by omega)] | rw [zaj, if_neg (by omega)])); all_goals (first | rfl | assumption))
  ·show Am.look 0 (zaz (D + 1) _ (zaz (D + 1) _ H.heap)) = _
   exact (by (repeat (first | rw [za5, if_pos rfl] | rw [za5, if_neg (by omega)] | rw [zaj, if_neg (by omega)])); all_goals (first | rfl | assumption))
  ·show Am.look 1 (zaz (D + 1) _ (zaz (D + 1) _ H.heap)) = _
   exact (by (repeat (first | rw [za5, if_pos rfl] | rw [za5, if_neg (by omega)] | rw [zaj, if_neg (by omega)])); all_goals (first | rfl | assumption))
theorem ascM_pr {n : Int} {s : List (BitVec 64)} (h64 : s.length ≤ 64) {k : Nat} (hk : k ≤ s.length) : zhl (zvw n s) (fun _ (p : List Int) => p.length ≤ 1000000 ∧ ∀ z ∈ p, 0 ≤ z ∧ z < s.length) (asc s.length k 0) () :=
 zpe (Pr := fun (p : List Int) => p.length ≤ 1000000 ∧ ∀ z ∈ p, 0 ≤ z ∧ z < s.length) _ _ fun p hp => by
  obtain ⟨h1, h2⟩ := zgz hp
  exact ⟨by omega, fun z hz => by have := h2 z hz; omega⟩
set_option maxHeartbeats 4000000 in
theorem zpz (n : Int) (s : List (BitVec 64)) : PF Try.prog 24 [cF n s] (fewV n s) := by
 have pL := zj5 n s
 have hcl := zbh s
 refine zbd env0_ok fn24 [(0, cF n s)] (by show 1 ≤ 34; decide) rfl fun w0 N0 => ?_
 unfold ic24 fewV
 refine za6 (za0 rfl (zd7 (cs := [.int .i64 n, .vs (cUs s)]) rfl rfl (zc2 (zc2 (za3 (za4 ?_))))))
 refine zd0 [(some (1, 1), [.nils]), (some (2, 2), [.int .i64 0])] [(0, 0, [.int .i64 n, .vs (cUs s)])] [(1, .vptr [.int .i64 n, .vs (cUs s)]), (2, .mptr 0 0 0), (3, .mptr 1 0 0)] rfl (.cons rfl rfl .nil) (.cons rfl (.keep rfl) (.cons rfl (.keep rfl) .nil)) (.cons rfl (.fptr rfl rfl) (.cons rfl (.mptr rfl) (.cons rfl (.mptr rfl) .nil))) ?_
 repeat (first | refine za6 ?_ | refine za0 rfl ?_ | refine zb2 rfl rfl rfl rfl ?_)
 refine zay rfl rfl pL (fun h => Bool.noConfusion (show false = true from h)) ?_
 by_cases hl : zn9 n s = 0
 ·obtain ⟨hc, h16⟩ := zuq hl
  rw [if_pos hl, hl]
  repeat (first | refine za6 ?_ | refine za0 rfl ?_ | refine za3 ?_ | refine za4 ?_ | refine zai ?_ | refine zad ?_ | refine zbt rfl ?_ | refine za1 rfl ?_ | refine zah rfl rfl ?_ | refine za9 rfl rfl rfl ?_ | refine zbf rfl rfl ?_ | refine zac (op := .add) rfl rfl rfl ?_ | refine zb5 rfl rfl rfl ?_)
  rw [hcl, zb0 s.length (by omega)]
  have key : ∀ k, k ≤ s.length + 1 → True := fun _ _ => trivial
  refine zcr (fun mm S => ∃ k q, mm = s.length + 1 - k ∧ k ≤ s.length + 1 ∧ fewO n s = (zny s.length k (s.length + 1 - k)).find? (zs7 n s) ∧
    S = st 34 [(1, .vptr [.int .i64 n, .vs (cUs s)]), (2, .mptr 0 0 0), (3, .mptr 1 0 0), (15, .int .i64 ((s.length + 1 : Nat) : Int)), (16, .int .i64 (k : Nat))] (zf3 0 [(some (0, 0), [.nils]), (some (1, 0), [.int .i64 0])] ++ zfs 2 q) (q + 2) 1 (zjb 2 q)) (s.length + 1)
   (sq rfl [(some (0, 0), [.nils]), (some (1, 0), [.int .i64 0])] [] rfl rfl rfl rfl .nil (.cons rfl (.keep rfl) (.cons rfl (.keep rfl) .nil)) (l' := [(1, .vptr [.int .i64 n, .vs (cUs s)]), (2, .mptr 0 0 0), (3, .mptr 1 0 0), (15, .int .i64 ((s.length + 1 : Nat) : Int)), (16, .int .i64 ((0 : Nat) : Int))]) (.cons rfl (.same rfl) (.cons rfl (.mptr rfl) (.cons rfl (.mptr rfl) (.cons rfl (.same rfl) (.cons rfl (.same rfl) .nil)))))) ⟨0, 0, rfl, Nat.zero_le _, rfl, rfl⟩ ?_
  rintro mm S ⟨k, q, rfl, hk, hall, rfl⟩
  unfold b24_0
  repeat (first | refine za6 ?_ | refine za0 rfl ?_)
  refine zax rfl rfl rfl (fun h3 => ?_) fun h3 => ?_
  ·have hlt : k < s.length + 1 := Int.ofNat_lt.1 (of_decide_eq_true h3)
   have hmk0 : zco (zjb 2 q) (zf3 0 [(some (0, 0), [.nils]), (some (1, 0), [.int .i64 0])] ++ zfs 2 q) := fun z hz => by
    obtain ⟨z1, z2, z3⟩ := zfo hz
    show Am.look z.1 ((0, _) :: (1, _) :: zfs 2 q) = _
    rw [zag, if_neg (by omega), zag, if_neg (by omega), zfn, if_pos ⟨z1, z2⟩, z3]
   have pF := zte s.length k
   repeat (first | refine za6 ?_ | refine za0 rfl ?_ | refine za3 ?_ | refine za4 ?_ | refine zai ?_ | refine zad ?_ | refine zc1 rfl ?_ | refine za1 rfl ?_ | refine zah rfl rfl ?_ | refine za9 rfl rfl rfl ?_ | refine zbf rfl rfl ?_)
   refine zay rfl (by rw [hcl]; rfl) pF (fun h => Bool.noConfusion (show false = true from h)) ?_ hmk0
   refine za3 (za4 (zai ?_))
   refine zq (zeq q 2) [(some (0, 0), [.nils]), (some (1, 0), [.int .i64 0])] [] (l24 n s k) rfl .nil (.cons rfl (.keep rfl) (.cons rfl (.keep rfl) .nil)) (.cons rfl (.same rfl) (.cons rfl (.mptr rfl) (.cons rfl (.mptr rfl) (.cons rfl (.same rfl) (.cons rfl (.same rfl) (.cons rfl (.same rfl) .nil)))))) ?_
   show Zm _ _ _ _ _ (st _ _ _ (q + 2) 1 (zjb 2 q)) _ _
   refine z_range (.inl rfl) rfl fun hA hB => (range67 (K := k) (N := s.length) (by omega) (by omega) (local24 (D := q + 2) (by omega) (l24 n s k)) (fun u p H hp h => yield24 (D := q + 2) (by omega) hc k hA hB u p H hp h) ⟨_, _, _⟩ () ?_ (ascM_pr (by omega) (by omega))).mono fun v H2 hF => ?_
   ·refine ⟨Nat.le_refl _, ?_, ?_, ?_, ?_⟩
    ·exact zav
    ·exact (zak (Nat.lt_succ_self _)).trans zav
    ·show Am.look 0 ((q + 2 + 1, _) :: (q + 2, _) :: (0, _) :: _) = _
     exact (by (repeat (first | rw [zag, if_pos rfl] | rw [zag, if_neg (by omega)])); try rfl)
    ·show Am.look 1 ((q + 2 + 1, _) :: (q + 2, _) :: (0, _) :: (1, _) :: _) = _
     exact (by (repeat (first | rw [zag, if_pos rfl] | rw [zag, if_neg (by omega)])); try rfl)
   obtain ⟨hK, hF⟩ := hF
   rw [zk6] at hF
   have hold : ∀ z ∈ zjb 2 q, Am.look z.1 H2.heap = some (z.2, .deferred) := fun z hz => by
    obtain ⟨z1, z2, z3⟩ := zfo hz
    refine (hK.look z.1 (fun h => by rcases h with h | h | h <;> omega) (by show z.1 < q + 2 + 2; omega)).trans ?_
    show Am.look z.1 ((q + 2 + 1, _) :: (q + 2, _) :: (0, _) :: (1, _) :: zfs 2 q) = _
    rw [zag, if_neg (by omega), zag, if_neg (by omega), zag, if_neg (by omega), zag, if_neg (by omega), zfn, if_pos ⟨z1, z2⟩, z3]
   have hmk : Am.look (q + 2) H2.heap = some (1, .deferred) → zco ((q + 2, 1) :: zjb 2 q) (zdi (q + 2 + 1) H2.heap) := fun h1 z hz => by
    rcases List.mem_cons.1 hz with rfl | hz
    ·rw [zaj, if_neg (by omega)]; exact h1
    ·have := zfo hz
     rw [zaj, if_neg (by omega)]; exact hold z hz
   rw [show s.length + 1 - k = (s.length - k) + 1 by omega, zsy, List.find?_append] at hall
   cases hb : (asc s.length k 0).find? (zs7 n s) with
   | none =>
    rw [hb] at hF hall
    obtain ⟨nx, h4, h3, r0, r1⟩ := hF
    refine ⟨_, _, .normal, _, _, _, _, _, _, h4, by simp, rfl, hmk h3, ?_⟩
    refine zbj (zbj (za4 ?_))
    refine zq (q := q + 1) (by rw [List.length_cons, zeq]) [(some (0, 0), [.nils]), (some (1, 0), [.int .i64 0])] [] [(1, .vptr [.int .i64 n, .vs (cUs s)]), (2, .mptr 0 0 0), (3, .mptr 1 0 0), (15, .int .i64 ((s.length + 1 : Nat) : Int)), (16, .int .i64 (k : Nat))] rfl .nil (.cons (by (repeat (first | rw [za5, if_pos rfl] | rw [za5, if_neg (by omega)] | rw [zaj, if_neg (by omega)])); all_goals (first | rfl | assumption)) (.keep rfl) (.cons (by (repeat (first | rw [za5, if_pos rfl] | rw [za5, if_neg (by omega)] | rw [zaj, if_neg (by omega)])); all_goals (first | rfl | assumption)) (.keep rfl) .nil)) (.cons rfl (.same rfl) (.cons rfl (.mptr rfl) (.cons rfl (.mptr rfl) (.cons rfl (.same rfl) (.cons rfl (.same rfl) .nil))))) ?_
    repeat (first | refine za0 rfl ?_ | refine za3 ?_ | refine za1 rfl ?_ | refine zac (op := .add) rfl rfl rfl ?_)
    rw [zb0 k (by omega)]
    exact zb4 (show s.length + 1 - (k + 1) < s.length + 1 - k by omega) (zaa (.cons rfl (.cons rfl (.cons rfl (.cons rfl (.cons rfl .nil)))))) ⟨k + 1, q + 1, rfl, hlt, by rw [hall, show s.length + 1 - (k + 1) = s.length - k by omega]; rfl, rfl⟩
   | some p =>
    rw [hb] at hF hall
    have hall : fewO n s = some p := hall
    obtain ⟨nx, ⟨tm, h4⟩, h3, r0, r1⟩ := hF
    refine ⟨_, _, .ret, _, _, _, _, _, _, h4, by simp, rfl, hmk h3, ?_⟩
    repeat (first | refine za8 ?_ | refine zab ?_)
    refine zbk ?_
    repeat (first | refine za8 ?_ | refine zab ?_)
    rw [hall]
    have hlv : ∀ i < 2, Am.look i (zg4 ((q + 2, 1) :: zjb 2 q) (zdi (q + 2 + 1) H2.heap)) = Am.look i (zdi (q + 2 + 1) H2.heap) := fun i hi => zen _ _ _ fun z hz e => by
     rcases List.mem_cons.1 hz with rfl | hz
     ·have : q + 2 = i := e
      omega
     ·have := (zfo hz).1; omega
    refine zal ⟨.inr rfl, _, zko ((ziz 2).trans rfl) (zhu (sp := 0) (cs := [vsI p]) ((hlv 0 (by decide)).trans ?_) (show 0 < H2.next by omega) rfl) ((ziz 3).trans rfl) (zhu (sp := 0) (cs := [.int .i64 0]) ((hlv 1 (by decide)).trans ?_) (show 1 < H2.next by omega) rfl), rfl⟩
    ·rw [zaj, if_neg (by omega)]; exact r0
    ·rw [zaj, if_neg (by omega)]; exact r1
  ·have hk2 : k = s.length + 1 := by
    have : ¬ k < s.length + 1 := fun h => of_decide_eq_false h3 (Int.ofNat_lt.2 h)
    omega
   subst hk2
   have hall : fewO n s = none := by rw [hall, Nat.sub_self]; rfl
   rw [hall]
   repeat (first | refine za6 ?_ | refine za3 ?_ | refine za4 ?_ | refine zbt rfl ?_ | refine zbc ?_ | refine zaf ?_)
   refine ze6 ?_
   repeat (first | refine za6 ?_ | refine za0 rfl ?_ | refine za3 ?_ | refine za4 ?_ | refine zas ?_ | refine zbb ?_ | refine zb9 rfl rfl rfl rfl rfl rfl rfl ?_)
   have hlv : ∀ i < 2, Am.look i (zg4 (zjb 2 q) (zaz 1 (0, .cells [.int .i64 6]) (zaz 0 (0, .cells [.nils]) (zf3 0 [(some (0, 0), [.nils]), (some (1, 0), [.int .i64 0])] ++ zfs 2 q)))) = Am.look i (zaz 1 (0, .cells [.int .i64 6]) (zaz 0 (0, .cells [.nils]) (zf3 0 [(some (0, 0), [.nils]), (some (1, 0), [.int .i64 0])] ++ zfs 2 q))) := fun i hi => zen _ _ _ fun z hz e => by have := (zfo hz).1; omega
   exact zal ⟨.inr rfl, _, zko ((ziz 2).trans rfl) (zhu (sp := 0) (cs := [.nils]) ((hlv 0 (by decide)).trans rfl) (show 0 < q + 2 by omega) rfl) ((ziz 3).trans rfl) (zhu (sp := 0) (cs := [.int .i64 6]) ((hlv 1 (by decide)).trans rfl) (show 1 < q + 2 by omega) rfl), rfl⟩
 ·rw [if_neg hl]
  repeat (first | refine za6 ?_ | refine za0 rfl ?_ | refine za3 ?_ | refine za4 ?_ | refine za1 rfl ?_)
  refine zax rfl rfl rfl (fun h => ?_) fun h => absurd (by simpa using h) hl
  repeat (first | refine za6 ?_ | refine za0 rfl ?_ | refine za3 ?_ | refine za4 ?_ | refine zc1 rfl ?_ | refine zas ?_ | refine za8 ?_ | refine za1 rfl ?_ | refine zb9 rfl rfl rfl rfl rfl rfl rfl ?_)
  exact zal ⟨.inr rfl, _, rfl, rfl⟩
end Go.Proofs.Ytknomkcdpcnmaaa
