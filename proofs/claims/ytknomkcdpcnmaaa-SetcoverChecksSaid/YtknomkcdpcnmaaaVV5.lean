/-
  SPARE SETS: setcover.Spare, and the same of the reference.
-/
import Derived.Test.YtknomkcdpcnmaaaVV4
namespace Go.Proofs.Ytknomkcdpcnmaaa
open Go Go.Am
def b35_1 : IC := .seq (.region [⟨(some 27), .bin .lss (.t 26) (.t 25), none⟩] none)
 (.seq (.cond (.t 27) (.skip)
 (.exit 1))
 (.seq (.block 2 (.seq (.region [⟨(some 28), .mov (.t 26), none⟩,
  ⟨(some 29), .idxs 1 (.t 24) (.t 26), none⟩,
  ⟨(some 30), .load none (.t 29), none⟩,
  ⟨(some 9), .mov (.t 28), none⟩,
  ⟨(some 10), .mov (.t 30), none⟩] none)
 (.seq (.region [⟨(some 31), .load (some 2) (.t 2), none⟩,
  ⟨(some 32), .mov (.t 1), none⟩,
  ⟨(some 33), .call (.c (.fn 45 [] [])) [(.t 32)], none⟩,
  ⟨(some 34), .mov (.t 9), none⟩,
  ⟨(some 35), .mov (.t 9), none⟩,
  ⟨(some 36), .bin .add (.t 35) (.c (.int .i64 1)), none⟩,
  ⟨(some 37), .call (.c (.fn 63 [] [])) [(.t 33), (.t 34), (.t 36)], none⟩,
  ⟨(some 38), .call (.c (.fn 57 [] [])) [(.t 31), (.t 37)], none⟩,
  ⟨(some 39), .faddr 0 (.t 2), none⟩,
  ⟨(some 40), .load none (.t 39), none⟩,
  ⟨(some 41), .call (.c (.fn 43 [] [])) [(.t 40)], none⟩,
  ⟨(some 42), .bin .eql (.t 38) (.t 41), none⟩] (some [[], [], [1], [], [], [4], [2, 3, 5, 2], [0, 6, 6], [], [8], [9, 7], [7, 10]]))
 (.cond (.t 42) (.region [⟨(some 43), .mov (.t 8), none⟩,
  ⟨(some 44), .mov (.t 10), none⟩,
  ⟨(some 45), .bslice 1 1 [.int .i64 0] [(0, 1, (.t 44))], none⟩,
  ⟨(some 46), .append 1 8 [.int .i64 0] (.t 43) (.t 45), none⟩,
  ⟨(some 8), .mov (.t 46), none⟩] none)
 (.skip)))))
 (.region [⟨(some 47), .bin .add (.t 26) (.c (.int .i64 1)), none⟩,
  ⟨(some 26), .mov (.t 47), none⟩] none)))
-- pneumatic/setcover.Spare
def ic35 : IC := .seq (.region [⟨(some 2), .box (.t 0), none⟩,
  ⟨(some 4), .mov (.c (.nils)), none⟩,
  ⟨(some 5), .mov (.c (.int .i64 0)), none⟩] none)
 (.seq (.region [⟨(some 12), .load (some 2) (.t 2), none⟩,
  ⟨(some 13), .mov (.t 1), none⟩,
  ⟨(some 14), .call (.c (.fn 33 [] [])) [(.t 12), (.t 13)], none⟩,
  ⟨(some 11), .mov (.t 14), none⟩,
  ⟨(some 15), .extract (.t 11) 0, none⟩,
  ⟨(some 16), .extract (.t 11) 1, none⟩,
  ⟨(some 6), .mov (.t 15), none⟩,
  ⟨(some 7), .mov (.t 16), none⟩] none)
 (.seq (.block 0 (.seq (.region [⟨(some 18), .mov (.t 7), none⟩,
  ⟨(some 19), .bin .neq (.t 18) (.c (.int .i64 0)), none⟩,
  ⟨(some 17), .mov (.t 19), none⟩] none)
 (.cond (.t 17) (.seq (.region [⟨(some 20), .mov (.t 7), none⟩,
  ⟨(some 4), .mov (.c (.nils)), none⟩,
  ⟨(some 5), .mov (.t 20), none⟩] none)
 (.ret))
 (.seq (.region [⟨(some 22), .mov (.t 6), none⟩,
  ⟨(some 23), .un .not (.t 22), none⟩,
  ⟨(some 21), .mov (.t 23), none⟩] none)
 (.cond (.t 21) (.seq (.region [⟨(some 4), .mov (.c (.nils)), none⟩,
  ⟨(some 5), .mov (.c (.int .i64 14)), none⟩] none)
 (.ret))
 (.skip))))))
 (.seq (.region [⟨(some 8), .mov (.c (.nils)), none⟩] none)
 (.seq (.seq (.region [⟨(some 24), .mov (.t 1), none⟩,
  ⟨(some 25), .len false (.t 24), none⟩,
  ⟨(some 26), .mov (.c (.int .i64 0)), none⟩] none)
 (.block 1 (.loop b35_1)))
 (.seq (.region [⟨(some 48), .mov (.t 8), none⟩,
  ⟨(some 4), .mov (.t 48), none⟩,
  ⟨(some 5), .mov (.c (.int .i64 0)), none⟩] none)
 (.ret))))))
theorem fn35 : env0.fn 35 = some ⟨49, ic35, [.t 4, .t 5]⟩ := by kernel_rfl
def b36_0 : IC := .seq (.seq (.region [⟨(some 22), .mov (.t 8), none⟩,
  ⟨(some 23), .mov (.t 1), none⟩,
  ⟨(some 24), .len false (.t 23), none⟩,
  ⟨(some 25), .bin .lss (.t 22) (.t 24), none⟩] none)
 (.cond (.t 25) (.skip)
 (.exit 0)))
 (.seq (.block 1 (.seq (.region [⟨(some 28), .load (some 2) (.t 2), none⟩,
  ⟨(some 29), .mov (.t 1), none⟩,
  ⟨(some 30), .mov (.t 8), none⟩,
  ⟨(some 31), .call (.c (.fn 61 [] [])) [(.t 29), (.t 30)], none⟩,
  ⟨(some 32), .call (.c (.fn 60 [] [])) [(.t 28), (.t 31)], none⟩,
  ⟨(some 33), .faddr 0 (.t 2), none⟩,
  ⟨(some 34), .load none (.t 33), none⟩,
  ⟨(some 35), .call (.c (.fn 54 [] [])) [(.t 34)], none⟩,
  ⟨(some 36), .bin .eql (.t 32) (.t 35), none⟩] (some [[], [], [], [1, 2], [0, 3, 3], [], [5], [6, 4], [4, 7]]))
 (.cond (.t 36) (.region [⟨(some 37), .mov (.t 7), none⟩,
  ⟨(some 38), .mov (.t 1), none⟩,
  ⟨(some 39), .mov (.t 8), none⟩,
  ⟨(some 40), .idxs 1 (.t 38) (.t 39), none⟩,
  ⟨(some 41), .load none (.t 40), none⟩,
  ⟨(some 42), .bslice 1 1 [.int .i64 0] [(0, 1, (.t 41))], none⟩,
  ⟨(some 43), .append 1 8 [.int .i64 0] (.t 37) (.t 42), none⟩,
  ⟨(some 7), .mov (.t 43), none⟩] none)
 (.skip))))
 (.region [⟨(some 26), .mov (.t 8), none⟩,
  ⟨(some 27), .bin .add (.t 26) (.c (.int .i64 1)), none⟩,
  ⟨(some 8), .mov (.t 27), none⟩] none))
-- pneumatic/pneumaticref09.Spare
def ic36 : IC := .seq (.region [⟨(some 2), .box (.t 0), none⟩,
  ⟨(some 4), .mov (.c (.nils)), none⟩,
  ⟨(some 5), .mov (.c (.int .i64 0)), none⟩] none)
 (.seq (.seq (.region [⟨(some 9), .load (some 2) (.t 2), none⟩,
  ⟨(some 10), .mov (.t 1), none⟩,
  ⟨(some 11), .call (.c (.fn 62 [] [])) [(.t 9), (.t 10)], none⟩,
  ⟨(some 6), .mov (.t 11), none⟩] none)
 (.seq (.region [⟨(some 12), .mov (.t 6), none⟩,
  ⟨(some 13), .bin .neq (.t 12) (.c (.int .i64 0)), none⟩] none)
 (.cond (.t 13) (.seq (.region [⟨(some 14), .mov (.t 6), none⟩,
  ⟨(some 4), .mov (.c (.nils)), none⟩,
  ⟨(some 5), .mov (.t 14), none⟩] none)
 (.ret))
 (.skip))))
 (.seq (.seq (.region [⟨(some 15), .load (some 2) (.t 2), none⟩,
  ⟨(some 16), .mov (.t 1), none⟩,
  ⟨(some 17), .call (.c (.fn 60 [] [])) [(.t 15), (.t 16)], none⟩,
  ⟨(some 18), .faddr 0 (.t 2), none⟩,
  ⟨(some 19), .load none (.t 18), none⟩,
  ⟨(some 20), .call (.c (.fn 54 [] [])) [(.t 19)], none⟩,
  ⟨(some 21), .bin .neq (.t 17) (.t 20), none⟩] (some [[], [], [0, 1], [], [3], [4, 2], [2, 5]]))
 (.cond (.t 21) (.seq (.region [⟨(some 4), .mov (.c (.nils)), none⟩,
  ⟨(some 5), .mov (.c (.int .i64 14)), none⟩] none)
 (.ret))
 (.skip)))
 (.seq (.region [⟨(some 7), .mov (.c (.nils)), none⟩] none)
 (.seq (.seq (.region [⟨(some 8), .mov (.c (.int .i64 0)), none⟩] none)
 (.block 0 (.loop b36_0)))
 (.seq (.region [⟨(some 44), .mov (.t 7), none⟩,
  ⟨(some 4), .mov (.t 44), none⟩,
  ⟨(some 5), .mov (.c (.int .i64 0)), none⟩] none)
 (.ret))))))
theorem fn36 : env0.fn 36 = some ⟨45, ic36, [.t 4, .t 5]⟩ := by kernel_rfl
theorem zmr {c : List Int} {P : Int → Prop} (h : ∀ z ∈ c, P z) (i : Nat) : ∀ z ∈ c.eraseIdx i, P z := fun z hz => h z (List.mem_of_mem_eraseIdx hz)
set_option maxHeartbeats 2000000 in
theorem spare36 (n : Int) (s : List (BitVec 64)) (hs : s.length ≤ 1000000) (c : List Int) (hl : c.length ≤ 1000000) : PF Try.prog 36 [cF n s, vsI c] (spaV n s c) := by
 have pG := zu1 n s hs c hl
 have hvl := zc5 c
 refine zc0 env0_ok fn36 [(0, cF n s), (1, .vs (vL c))] (by show 2 ≤ 45; decide) rfl fun w0 N0 => ?_
 unfold ic36 spaV
 refine za9 (za0 rfl (zbh (cs := [.int .i64 n, .vs (cUs s)]) rfl rfl (za5 rfl (za5 rfl (za7 (za8 ?_))))))
 refine zdf [] [(0, 0, [.int .i64 n, .vs (cUs s)])] [(1, .vs (vL c)), (2, .vptr [.int .i64 n, .vs (cUs s)])] rfl (.cons rfl rfl .nil) .nil (.cons rfl (.same rfl) (.cons rfl (.fptr rfl rfl) .nil)) ?_
 repeat (first | refine za9 ?_ | refine za0 rfl ?_ | refine za5 rfl ?_ | refine zar rfl rfl rfl rfl ?_)
 refine zbn rfl rfl pG (fun h => Bool.noConfusion (show false = true from h)) ?_
 by_cases hg : zmz n s c s.length = 0
 ·rw [if_pos hg, hg]
  obtain ⟨hc, ho⟩ := zn0 hg
  obtain ⟨n0, n1, s1, _⟩ := zgf hc
  have hin := zhq ho
  have hin2 : ∀ z ∈ c, 0 ≤ z ∧ z < s.length := fun z hz => ⟨(hin z hz).1, (hin z hz).2.1⟩
  have pU := zp5 n s c hl hin2
  have pA := all54 n0
  repeat (first | refine za9 ?_ | refine za0 rfl ?_ | refine za7 ?_ | refine za8 ?_ | refine zal ?_ | refine zbo rfl ?_ | refine za5 rfl ?_ | refine zb0 rfl rfl rfl ?_)
  refine zeu env0_ok [(60, [cF n s, vsI c], cU (uni s c)), (54, [.int .i64 n], cU (zdg n))] (fun x hx => by
   rcases List.mem_cons.1 hx with rfl | hx
   ·exact pU
   obtain rfl := List.mem_singleton.1 hx
   exact pA) (fun f => Nat.beq f 60 || Nat.beq f 54) rfl rfl rfl ?_
  repeat (first | refine za5 rfl ?_ | refine zar rfl rfl rfl rfl ?_)
  refine zbn rfl rfl zbx (fun h => Bool.noConfusion (show false = true from h)) ?_
  repeat (first | refine zat rfl rfl ?_ | refine zaa rfl rfl rfl ?_)
  refine zbn rfl rfl (zbz (by decide) zbx) (fun h => Bool.noConfusion (show false = true from h)) ?_
  refine zbp rfl rfl (zgw _ _) (fun h => ?_) fun h => ?_
  ·have h2 : zk5 n s c = false := by
    unfold zk5
    cases hb : uni s c == zdg n with
    | false => rfl
    | true => rw [eq_of_beq hb] at h; simp at h
   rw [h2, if_neg (by decide)]
   repeat (first | refine za9 ?_ | refine za0 rfl ?_ | refine za7 ?_ | refine za8 ?_ | refine zbq rfl ?_ | refine zb4 ?_ | refine za2 ?_ | refine za5 rfl ?_)
   exact zbj ⟨.inr rfl, _, rfl, rfl⟩
  have h2 : zk5 n s c = true := by
   unfold zk5
   cases hb : uni s c == zdg n with
   | true => rfl
   | false =>
    have : (uni s c != zdg n) = true := by rw [bne, hb]; rfl
    rw [this] at h
    cases h
  rw [if_pos h2]
  repeat (first | refine za9 ?_ | refine za0 rfl ?_ | refine za7 ?_ | refine za8 ?_ | refine zai ?_ | refine zal ?_ | refine zbo rfl ?_ | refine za5 rfl ?_)
  refine zl1 7 1 rfl ?_
  refine zcz (fun mm S => ∃ i, mm = c.length - i ∧ i ≤ c.length ∧ S = st 45 [(1, .vs (vL c)), (2, .vptr [.int .i64 n, .vs (cUs s)]), (7, .ms 0 0 1 0 (zqx n s c i).length none), (8, .int .i64 (i : Nat))] [(0, 0, .cells ((zqx n s c i).map (AV.int .i64)))] 1 1) c.length
   (zd2 [(some (0, 1), [])] [] rfl rfl rfl .nil (.cons rfl .nil .nil) (l' := [(1, .vs (vL c)), (2, .vptr [.int .i64 n, .vs (cUs s)]), (7, .ms 0 0 1 0 0 none), (8, .int .i64 ((0 : Nat) : Int))]) (.cons rfl (.same rfl) (.cons rfl (.same rfl) (.cons rfl (.ms rfl) (.cons rfl (.same rfl) .nil))))) ⟨0, rfl, Nat.zero_le _, rfl⟩ ?_
  rintro mm S ⟨i, rfl, hi, rfl⟩
  have hsl := zm8 n s c i
  unfold b36_0
  repeat (first | refine za9 ?_ | refine za0 rfl ?_ | refine za5 rfl ?_ | refine zbe rfl rfl ?_)
  refine zbp rfl rfl (by show some (AV.bool (decide (((i : Nat) : Int) < ((vL c).length : Nat)))) = _; rw [hvl]) (fun h3 => ?_) fun h3 => ?_
  ·have hlt : i < c.length := Int.ofNat_lt.1 (of_decide_eq_true h3)
   have pW := zvx c hl i hlt
   have pU2 := zp5 n s (c.eraseIdx i) (by rw [List.length_eraseIdx]; split <;> omega) (zmr hin2 i)
   have hg := zdr hlt
   have hss := zno (n := n) (s := s) hlt
   have w1 : IntKind.wrap .i64 (((i : Nat) : Int) + 1) = ((i + 1 : Nat) : Int) := zbw i (by omega)
   repeat (first | refine za9 ?_ | refine za7 ?_ | refine za8 ?_ | refine zai ?_ | refine zal ?_ | refine zbq rfl ?_)
   refine zeu env0_ok [(61, [vsI c, .int .i64 (i : Nat)], vsI (c.eraseIdx i)), (60, [cF n s, vsI (c.eraseIdx i)], cU (uni s (c.eraseIdx i))), (54, [.int .i64 n], cU (zdg n))] (fun x hx => by
    rcases List.mem_cons.1 hx with rfl | hx
    ·exact pW
    rcases List.mem_cons.1 hx with rfl | hx
    ·exact pU2
    obtain rfl := List.mem_singleton.1 hx
    exact pA) (fun f => Nat.beq f 60 || Nat.beq f 54 || Nat.beq f 61) rfl rfl rfl ?_
   repeat (first | refine za5 rfl ?_ | refine zar rfl rfl rfl rfl ?_)
   refine zbn rfl rfl zbx (fun h => Bool.noConfusion (show false = true from h)) ?_
   refine zbn rfl rfl (zbz (by decide) zbx) (fun h => Bool.noConfusion (show false = true from h)) ?_
   repeat (first | refine zat rfl rfl ?_ | refine zaa rfl rfl rfl ?_)
   refine zbn rfl rfl (zbz (by decide) (zbz (by decide) zbx)) (fun h => Bool.noConfusion (show false = true from h)) ?_
   refine zbp rfl rfl (zdh _ _) (fun h => ?_) fun h => ?_
   ·rw [show zk5 n s (c.eraseIdx i) = true from h, if_pos rfl] at hss
    have hg : (vL c)[((i : Nat) : Int).toNat]? = some [.int .i64 c[i]] := hg
    repeat (first | refine za0 rfl ?_ | refine za7 ?_ | refine za8 ?_ | refine zbq rfl ?_ | refine za5 rfl ?_ | refine zat rfl rfl ?_ | refine zah rfl rfl ?_ | refine zb1 rfl rfl (by omega) (by assumption) rfl ?_)
    refine zfc [[.int .i64 c[i]]] rfl rfl (zds (ys := []) zbu rfl (fun x hx => by obtain rfl := List.mem_singleton.1 hx; rfl)) (fun h => Nat.noConfusion h) rfl (by decide) (by (repeat (first | rw [zbg, if_pos rfl] | rw [zbg, if_neg (by omega)])); try rfl) (by rw [List.length_map, Nat.mul_one]) (by show _ + 1 ≤ _; omega) ?_
    repeat (first | refine za0 rfl ?_ | refine za7 ?_ | refine za8 ?_ | refine zbf ?_ | refine za5 rfl ?_ | refine zag (op := .add) rfl rfl rfl ?_)
    rw [w1]
    exact zby (show c.length - (i + 1) < c.length - i by omega) (zd2 [(some (0, 2), (zqx n s c i ++ [c[i]]).map (AV.int .i64))] [] rfl rfl rfl .nil (.cons (by rw [zaj, if_pos rfl]; rw [List.map_append]; rfl) (.keep (ze8 _)) .nil) (l' := [(1, .vs (vL c)), (2, .vptr [.int .i64 n, .vs (cUs s)]), (7, .ms 0 0 1 0 ((zqx n s c i).length + 1) none), (8, .int .i64 ((i + 1 : Nat) : Int))]) (.cons rfl (.same rfl) (.cons rfl (.same rfl) (.cons rfl (.ms rfl) (.cons rfl (.same rfl) .nil))))) ⟨i + 1, rfl, hlt, by rw [hss, List.length_append]; rfl⟩
   ·rw [show zk5 n s (c.eraseIdx i) = false from h, if_neg (by decide)] at hss
    repeat (first | refine za0 rfl ?_ | refine za7 ?_ | refine za8 ?_ | refine zbf ?_ | refine zal ?_ | refine zbo rfl ?_ | refine za5 rfl ?_ | refine zag (op := .add) rfl rfl rfl ?_)
    rw [w1]
    exact zby (show c.length - (i + 1) < c.length - i by omega) (zbd (.cons rfl (.cons rfl (.cons rfl (.cons rfl .nil))))) ⟨i + 1, rfl, hlt, by rw [hss]⟩
  ·have hi2 : i = c.length := by
    have : ¬ i < c.length := fun h => of_decide_eq_false h3 (Int.ofNat_lt.2 h)
    omega
   subst hi2
   repeat (first | refine za7 ?_ | refine za8 ?_ | refine zbo rfl ?_ | refine zb3 ?_ | refine za4 ?_)
   refine ze4 ?_
   repeat (first | refine za9 ?_ | refine za0 rfl ?_ | refine za7 ?_ | refine za8 ?_ | refine zb4 ?_ | refine zb2 ?_ | refine za5 rfl ?_)
   refine zbj ⟨.inr rfl, _, rfl, ?_⟩
   exact congrArg AV.tup (zm0 (zee (d := 2) (sp := 0) _ rfl rfl) rfl)
 ·rw [if_neg hg]
  repeat (first | refine za9 ?_ | refine za0 rfl ?_ | refine za7 ?_ | refine za8 ?_ | refine za5 rfl ?_)
  refine zbp rfl rfl rfl (fun h => ?_) fun h => absurd (by simpa using h) hg
  repeat (first | refine za9 ?_ | refine za0 rfl ?_ | refine za7 ?_ | refine za8 ?_ | refine zbq rfl ?_ | refine zb4 ?_ | refine za2 ?_ | refine za5 rfl ?_)
  exact zbj ⟨.inr rfl, _, rfl, rfl⟩
set_option maxHeartbeats 2000000 in
theorem spare35 (n : Int) (s : List (BitVec 64)) (hs : s.length ≤ 1000000) (c : List Int) (hl : c.length ≤ 1000000) : PF Try.prog 35 [cF n s, vsI c] (spaV n s c) := by
 have pC := zpw n s hs c hl
 have hvl := zc5 c
 refine zc0 env0_ok fn35 [(0, cF n s), (1, .vs (vL c))] (by show 2 ≤ 49; decide) rfl fun w0 N0 => ?_
 unfold ic35 spaV
 unfold covV at pC
 refine za9 (za0 rfl (zbh (cs := [.int .i64 n, .vs (cUs s)]) rfl rfl (za5 rfl (za5 rfl (za7 (za8 ?_))))))
 refine zdf [] [(0, 0, [.int .i64 n, .vs (cUs s)])] [(1, .vs (vL c)), (2, .vptr [.int .i64 n, .vs (cUs s)])] rfl (.cons rfl rfl .nil) .nil (.cons rfl (.same rfl) (.cons rfl (.fptr rfl rfl) .nil)) ?_
 repeat (first | refine za9 ?_ | refine za0 rfl ?_ | refine za5 rfl ?_ | refine zar rfl rfl rfl rfl ?_)
 refine zbn rfl rfl pC (fun h => Bool.noConfusion (show false = true from h)) ?_
 by_cases hg : zmz n s c s.length = 0
 ·rw [if_pos hg, if_pos hg]
  obtain ⟨hc, ho⟩ := zn0 hg
  obtain ⟨n0, n1, s1, _⟩ := zgf hc
  have hin := zhq ho
  have hin2 : ∀ z ∈ c, 0 ≤ z ∧ z < s.length := fun z hz => ⟨(hin z hz).1, (hin z hz).2.1⟩
  have pA := znx n0 n1
  cases h2 : zk5 n s c with
  | false =>
   rw [if_neg (by decide)]
   repeat (first | refine za9 ?_ | refine za0 rfl ?_ | refine za7 ?_ | refine za8 ?_ | refine zai ?_ | refine zbq rfl ?_ | refine zbo rfl ?_ | refine zb4 ?_ | refine za2 ?_ | refine za6 ?_ | refine za5 rfl ?_ | refine zcb rfl rfl ?_ | refine zac rfl rfl ?_ | refine zb0 rfl rfl rfl ?_)
   exact zbj ⟨.inr rfl, _, rfl, rfl⟩
  | true =>
  rw [if_pos rfl]
  repeat (first | refine za9 ?_ | refine za0 rfl ?_ | refine za7 ?_ | refine za8 ?_ | refine zbf ?_ | refine zai ?_ | refine zal ?_ | refine zbo rfl ?_ | refine za5 rfl ?_ | refine zcb rfl rfl ?_ | refine zbe rfl rfl ?_ | refine zac rfl rfl ?_ | refine zb0 rfl rfl rfl ?_)
  refine zl1 8 1 rfl ?_
  refine zcz (fun mm S => ∃ i, mm = c.length - i ∧ i ≤ c.length ∧ S = st 49 [(1, .vs (vL c)), (2, .vptr [.int .i64 n, .vs (cUs s)]), (8, .ms 0 0 1 0 (zqx n s c i).length none), (24, .vs (vL c)), (25, .int .i64 c.length), (26, .int .i64 (i : Nat))] [(0, 0, .cells ((zqx n s c i).map (AV.int .i64)))] 1 1) c.length
   (zd2 [(some (0, 1), [])] [] rfl rfl rfl .nil (.cons rfl .nil .nil) (l' := [(1, .vs (vL c)), (2, .vptr [.int .i64 n, .vs (cUs s)]), (8, .ms 0 0 1 0 0 none), (24, .vs (vL c)), (25, .int .i64 c.length), (26, .int .i64 ((0 : Nat) : Int))]) (.cons rfl (.same rfl) (.cons rfl (.same rfl) (.cons rfl (.ms rfl) (.cons rfl (.same rfl) (.cons (by rw [← hvl]; rfl) (.same rfl) (.cons rfl (.same rfl) .nil))))))) ⟨0, rfl, Nat.zero_le _, rfl⟩ ?_
  rintro mm S ⟨i, rfl, hi, rfl⟩
  have hsl := zm8 n s c i
  unfold b35_1
  repeat (first | refine za9 ?_ | refine za0 rfl ?_)
  refine zbp rfl rfl rfl (fun h3 => ?_) fun h3 => ?_
  ·have hlt : i < c.length := Int.ofNat_lt.1 (of_decide_eq_true h3)
   have pU2 := zp4 n s (c.eraseIdx i) (by rw [List.length_eraseIdx]; split <;> omega) (zmr hin2 i)
   have hg : (vL c)[((i : Nat) : Int).toNat]? = some [.int .i64 c[i]] := zdr hlt
   have hss := zno (n := n) (s := s) hlt
   have w1 : IntKind.wrap .i64 (((i : Nat) : Int) + 1) = ((i + 1 : Nat) : Int) := zbw i (by omega)
   have hne : c ≠ [] := fun e => by rw [e] at hlt; exact absurd hlt (Nat.not_lt_zero _)
   generalize zqx n s c i = out at *
   repeat (first | refine za9 ?_ | refine za0 rfl ?_ | refine za7 ?_ | refine za8 ?_ | refine zai ?_ | refine zal ?_ | refine zbq rfl ?_ | refine za5 rfl ?_ | refine zat rfl rfl ?_ | refine zb1 rfl rfl (by omega) (by assumption) rfl ?_)
   refine z_drawnT env0_ok [(57, [cF n s, vsI (c.eraseIdx i)], cU (uni s (c.eraseIdx i))), (43, [.int .i64 n], cU (zdg n))] (fun x hx => by
    rcases List.mem_cons.1 hx with rfl | hx
    ·exact pU2
    obtain rfl := List.mem_singleton.1 hx
    exact pA) (fun f => Nat.beq f 57 || Nat.beq f 43)
    [(45, [vsI c], ⟨[(0, 0, .cells (out.map (AV.int .i64)))], 1, 1⟩, .ms 2 2 1 0 c.length none, ⟨[(2, 2, .cells (c.map (AV.int .i64))), (1, 1, .cells []), (0, 0, .cells (out.map (AV.int .i64)))], 3, 3⟩),
     (63, [.ms 2 2 1 0 c.length none, .int .i64 (i : Nat), .int .i64 ((i + 1 : Nat) : Int)], ⟨[(2, 2, .cells (c.map (AV.int .i64))), (1, 1, .cells []), (0, 0, .cells (out.map (AV.int .i64)))], 3, 3⟩, vsI (c.eraseIdx i), ⟨[(1, 1, .cells []), (0, 0, .cells (out.map (AV.int .i64)))], 3, 3⟩)]
    (fun x hx w0 N0 => by
     rcases List.mem_cons.1 hx with rfl | hx
     ·exact clone45t c hne hl _
     obtain rfl := List.mem_singleton.1 hx
     exact zti c hl i hlt _ rfl) false (fun _ => false) (fun _ => true) (fun _ _ => rfl) (fun _ h _ => Bool.noConfusion h) rfl rfl rfl rfl ?_
   repeat (first | refine za5 rfl ?_ | refine zar rfl rfl rfl rfl ?_)
   refine o_told rfl rfl (fun _ => rfl) zki ?_
   repeat (first | refine za5 rfl ?_ | refine zag (op := .add) rfl rfl rfl ?_)
   rw [w1]
   refine o_told rfl rfl (fun _ => rfl) (zrn (by decide) zki) ?_
   refine zbn rfl rfl zbx (fun h => Bool.noConfusion (show false = true from h)) ?_
   repeat (first | refine zat rfl rfl ?_ | refine zaa rfl rfl rfl ?_)
   refine zbn rfl rfl (zbz (by decide) zbx) (fun h => Bool.noConfusion (show false = true from h)) ?_
   refine zbp rfl rfl (zdh _ _) (fun h => ?_) fun h => ?_
   ·rw [show zk5 n s (c.eraseIdx i) = true from h, if_pos rfl] at hss
    repeat (first | refine za0 rfl ?_ | refine za7 ?_ | refine za8 ?_ | refine zbq rfl ?_ | refine za5 rfl ?_ | refine zah rfl rfl ?_)
    refine zfc [[.int .i64 c[i]]] rfl rfl (zds (ys := []) zbu rfl (fun x hx => by obtain rfl := List.mem_singleton.1 hx; rfl)) (fun h => Nat.noConfusion h) rfl (by decide) (by (repeat (first | rw [zbg, if_pos rfl] | rw [zbg, if_neg (by omega)])); try rfl) (by rw [List.length_map, Nat.mul_one]) (by show _ + 1 ≤ _; omega) ?_
    repeat (first | refine za0 rfl ?_ | refine za7 ?_ | refine za8 ?_ | refine zbf ?_ | refine za5 rfl ?_ | refine zag (op := .add) rfl rfl rfl ?_)
    exact zby (show c.length - (i + 1) < c.length - i by omega) (zd2 [(some (0, 4), (out ++ [c[i]]).map (AV.int .i64))] [] rfl rfl rfl .nil (.cons (by rw [zaj, if_pos rfl]; rw [List.map_append]; rfl) (.keep (ze8 _)) .nil) (l' := [(1, .vs (vL c)), (2, .vptr [.int .i64 n, .vs (cUs s)]), (8, .ms 0 0 1 0 (out.length + 1) none), (24, .vs (vL c)), (25, .int .i64 c.length), (26, .int .i64 ((i + 1 : Nat) : Int))]) (.cons rfl (.same rfl) (.cons rfl (.same rfl) (.cons rfl (.ms rfl) (.cons rfl (.same rfl) (.cons rfl (.same rfl) (.cons (by rw [← w1]; rfl) (.same rfl) .nil))))))) ⟨i + 1, rfl, hlt, by rw [hss, List.length_append]; rfl⟩
   ·rw [show zk5 n s (c.eraseIdx i) = false from h, if_neg (by decide)] at hss
    repeat (first | refine za0 rfl ?_ | refine za7 ?_ | refine za8 ?_ | refine zbf ?_ | refine zal ?_ | refine zbo rfl ?_ | refine za5 rfl ?_ | refine zag (op := .add) rfl rfl rfl ?_)
    exact zby (show c.length - (i + 1) < c.length - i by omega) (zd2 [(some (0, 0), out.map (AV.int .i64))] [] rfl rfl rfl .nil (.cons rfl (.keep (ze8 _)) .nil) (l' := [(1, .vs (vL c)), (2, .vptr [.int .i64 n, .vs (cUs s)]), (8, .ms 0 0 1 0 out.length none), (24, .vs (vL c)), (25, .int .i64 c.length), (26, .int .i64 ((i + 1 : Nat) : Int))]) (.cons rfl (.same rfl) (.cons rfl (.same rfl) (.cons rfl (.ms rfl) (.cons rfl (.same rfl) (.cons rfl (.same rfl) (.cons (by rw [← w1]; rfl) (.same rfl) .nil))))))) ⟨i + 1, rfl, hlt, by rw [hss]; rfl⟩
  ·have hi2 : i = c.length := by
    have : ¬ i < c.length := fun h => of_decide_eq_false h3 (Int.ofNat_lt.2 h)
    omega
   subst hi2
   repeat (first | refine za9 ?_ | refine za7 ?_ | refine za8 ?_ | refine zbo rfl ?_ | refine zb3 ?_ | refine za4 ?_)
   refine ze4 ?_
   repeat (first | refine za9 ?_ | refine za0 rfl ?_ | refine za7 ?_ | refine za8 ?_ | refine zb4 ?_ | refine zb2 ?_ | refine za5 rfl ?_)
   refine zbj ⟨.inr rfl, _, rfl, ?_⟩
   exact congrArg AV.tup (zm0 (zee (d := 2) (sp := 0) _ rfl rfl) rfl)
 ·rw [if_neg hg, if_neg hg]
  repeat (first | refine za9 ?_ | refine za0 rfl ?_ | refine za7 ?_ | refine za8 ?_ | refine zai ?_ | refine za5 rfl ?_ | refine zac rfl rfl ?_)
  refine zbp rfl rfl rfl (fun h => ?_) fun h => absurd (by simpa using h) hg
  repeat (first | refine za9 ?_ | refine za0 rfl ?_ | refine za7 ?_ | refine za8 ?_ | refine zbq rfl ?_ | refine zb4 ?_ | refine za2 ?_ | refine za6 ?_ | refine za5 rfl ?_)
  exact zbj ⟨.inr rfl, _, rfl, rfl⟩
end Go.Proofs.Ytknomkcdpcnmaaa
