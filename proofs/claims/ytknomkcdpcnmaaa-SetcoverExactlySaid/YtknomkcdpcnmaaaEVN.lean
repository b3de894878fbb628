/-
  THE GREEDY CHOICE: setcover.Greedy.
-/
import Derived.Test.YtknomkcdpcnmaaaEVM
import Derived.Test.YtknomkcdpcnmaaaEP4
import Derived.Test.YtknomkcdpcnmaaaES0
namespace Go.Proofs.Ytknomkcdpcnmaaa
open Go Go.Am
def b21_2 : IC := .seq (.region [⟨(some 26), .bin .lss (.t 25) (.t 24), none⟩] none)
 (.seq (.cond (.t 26) (.skip)
 (.exit 2))
 (.seq (.block 3 (.seq (.region [⟨(some 27), .mov (.t 25), none⟩,
  ⟨(some 28), .idxs 1 (.t 23) (.t 25), none⟩,
  ⟨(some 29), .load none (.t 28), none⟩,
  ⟨(some 9), .mov (.t 27), none⟩,
  ⟨(some 10), .mov (.t 29), none⟩] none)
 (.seq (.region [⟨(some 30), .mov (.t 10), none⟩,
  ⟨(some 31), .mov (.t 6), none⟩,
  ⟨(some 32), .bin .and (.t 30) (.t 31), none⟩,
  ⟨(some 33), .call (.c (.fn 26 [] [])) [(.t 32)], none⟩,
  ⟨(some 11), .mov (.t 33), none⟩] none)
 (.seq (.region [⟨(some 34), .mov (.t 11), none⟩,
  ⟨(some 35), .mov (.t 8), none⟩,
  ⟨(some 36), .bin .gtr (.t 34) (.t 35), none⟩] none)
 (.cond (.t 36) (.region [⟨(some 37), .mov (.t 9), none⟩,
  ⟨(some 38), .mov (.t 11), none⟩,
  ⟨(some 7), .mov (.t 37), none⟩,
  ⟨(some 8), .mov (.t 38), none⟩] none)
 (.skip))))))
 (.region [⟨(some 39), .bin .add (.t 25) (.c (.int .i64 1)), none⟩,
  ⟨(some 25), .mov (.t 39), none⟩] none)))
def b21_0 : IC := .seq (.seq (.region [⟨(some 20), .mov (.t 6), none⟩,
  ⟨(some 21), .bin .neq (.t 20) (.c (.int .u64 0)), none⟩] none)
 (.cond (.t 21) (.skip)
 (.exit 0)))
 (.block 1 (.seq (.region [⟨(some 7), .mov (.c (.int .i64 0)), none⟩,
  ⟨(some 8), .mov (.c (.int .i64 0)), none⟩] none)
 (.seq (.seq (.region [⟨(some 22), .faddr 1 (.t 1), none⟩,
  ⟨(some 23), .load none (.t 22), none⟩,
  ⟨(some 24), .len false (.t 23), none⟩,
  ⟨(some 25), .mov (.c (.int .i64 0)), none⟩] none)
 (.block 2 (.loop b21_2)))
 (.seq (.seq (.region [⟨(some 40), .mov (.t 8), none⟩,
  ⟨(some 41), .bin .eql (.t 40) (.c (.int .i64 0)), none⟩] none)
 (.cond (.t 41) (.seq (.region [⟨(some 2), .mov (.c (.nils)), none⟩,
  ⟨(some 3), .mov (.c (.int .i64 6)), none⟩] none)
 (.ret))
 (.skip)))
 (.seq (.region [⟨(some 42), .mov (.t 5), none⟩,
  ⟨(some 43), .mov (.t 7), none⟩,
  ⟨(some 44), .bslice 1 1 [.int .i64 0] [(0, 1, (.t 43))], none⟩,
  ⟨(some 45), .append 1 8 [.int .i64 0] (.t 42) (.t 44), none⟩,
  ⟨(some 5), .mov (.t 45), none⟩] none)
 (.region [⟨(some 46), .mov (.t 6), none⟩,
  ⟨(some 47), .faddr 1 (.t 1), none⟩,
  ⟨(some 48), .load none (.t 47), none⟩,
  ⟨(some 49), .mov (.t 7), none⟩,
  ⟨(some 50), .idxs 1 (.t 48) (.t 49), none⟩,
  ⟨(some 51), .load none (.t 50), none⟩,
  ⟨(some 52), .bin .andNot (.t 46) (.t 51), none⟩,
  ⟨(some 6), .mov (.t 52), none⟩] none))))))
-- pneumatic/setcover.Greedy
def ic21 : IC := .seq (.region [⟨(some 1), .box (.t 0), none⟩,
  ⟨(some 2), .mov (.c (.nils)), none⟩,
  ⟨(some 3), .mov (.c (.int .i64 0)), none⟩] none)
 (.seq (.seq (.region [⟨(some 12), .load (some 2) (.t 1), none⟩,
  ⟨(some 13), .call (.c (.fn 37 [] [])) [(.t 12)], none⟩,
  ⟨(some 4), .mov (.t 13), none⟩] none)
 (.seq (.region [⟨(some 14), .mov (.t 4), none⟩,
  ⟨(some 15), .bin .neq (.t 14) (.c (.int .i64 0)), none⟩] none)
 (.cond (.t 15) (.seq (.region [⟨(some 16), .mov (.t 4), none⟩,
  ⟨(some 2), .mov (.c (.nils)), none⟩,
  ⟨(some 3), .mov (.t 16), none⟩] none)
 (.ret))
 (.skip))))
 (.seq (.region [⟨(some 5), .mov (.c (.nils)), none⟩] none)
 (.seq (.seq (.region [⟨(some 17), .faddr 0 (.t 1), none⟩,
  ⟨(some 18), .load none (.t 17), none⟩,
  ⟨(some 19), .call (.c (.fn 43 [] [])) [(.t 18)], none⟩,
  ⟨(some 6), .mov (.t 19), none⟩] none)
 (.block 0 (.loop b21_0)))
 (.seq (.region [⟨(some 53), .mov (.t 5), none⟩,
  ⟨(some 54), .call (.c (.fn 53 [] [])) [(.t 53)], none⟩] none)
 (.seq (.region [⟨(some 55), .mov (.t 5), none⟩,
  ⟨(some 2), .mov (.t 55), none⟩,
  ⟨(some 3), .mov (.c (.int .i64 0)), none⟩] none)
 (.ret))))))
theorem fn21 : env0.fn 21 = some ⟨56, ic21, [.t 2, .t 3]⟩ := by kernel_rfl
def zdr (s : List (BitVec 64)) (left : BitVec 64) : Nat → Nat × Nat
 | 0 => (0, 0)
 | i + 1 => if szB (s.getD i 0 &&& left) > (zdr s left i).2 then (i, szB (s.getD i 0 &&& left)) else zdr s left i
theorem zl0 (s : List (BitVec 64)) (left : BitVec 64) : ∀ i : Nat, (zdr s left i).2 ≠ 0 → (zdr s left i).1 < i ∧ (zdr s left i).2 = szB (s.getD (zdr s left i).1 0 &&& left)
 | 0, h => absurd rfl h
 | i + 1, h => by
  rw [zdr] at h ⊢
  split
  ·exact ⟨Nat.lt_succ_self i, rfl⟩
  ·rename_i h1
   rw [if_neg h1] at h
   have := zl0 s left i h
   exact ⟨by omega, this.2⟩
def zs8 (s : List (BitVec 64)) : Nat → BitVec 64 → List Int → Option (List Int)
 | 0, _, _ => none
 | f + 1, left, out => if left = 0#64 then some out else if (zdr s left s.length).2 = 0 then none else zs8 s f (left &&& ~~~ s.getD (zdr s left s.length).1 0) (out ++ [((zdr s left s.length).1 : Int)])
theorem zn4 (s : List (BitVec 64)) : ∀ (f g : Nat) (left : BitVec 64) (out : List Int), szB left < f → szB left < g → zs8 s f left out = zs8 s g left out
 | 0, _, _, _, h, _ => absurd h (Nat.not_lt_zero _)
 | _, 0, _, _, _, h => absurd h (Nat.not_lt_zero _)
 | f + 1, g + 1, left, out, h1, h2 => by
  rw [zs8, zs8]
  by_cases h3 : left = 0#64
  ·rw [if_pos h3, if_pos h3]
  rw [if_neg h3, if_neg h3]
  by_cases h4 : (zdr s left s.length).2 = 0
  ·rw [if_pos h4, if_pos h4]
  rw [if_neg h4, if_neg h4]
  have h5 := (zl0 s left s.length h4).2
  have h6 := zqy left (s.getD (zdr s left s.length).1 0)
  rw [BitVec.and_comm left (s.getD (zdr s left s.length).1 0), ← h5] at h6
  exact zn4 s f g _ _ (by omega) (by omega)
def greV (n : Int) (s : List (BitVec 64)) : AV := if ze8 n s = 0 then (match zs8 s (szB (zce n) + 1) (zce n) [] with | some out => .tup [vsI (zp3 out), .int .i64 0] | none => .tup [.vs [], .int .i64 6]) else .tup [.vs [], .int .i64 (ze8 n s)]
theorem and_lt {x y : BitVec 64} {m : Nat} (h : y.toNat < m) : (x &&& y).toNat < m := by
 rw [BitVec.toNat_and]
 exact Nat.lt_of_le_of_lt Nat.and_le_right h
theorem and_lt2 {x y : BitVec 64} {m : Nat} (h : x.toNat < m) : (x &&& y).toNat < m := by
 rw [BitVec.toNat_and]
 exact Nat.lt_of_le_of_lt Nat.and_le_left h
set_option maxHeartbeats 4000000 in
theorem greedy21 (n : Int) (s : List (BitVec 64)) (hn : ze8 n s = 0 → n ≤ 12) : PF Try.prog 21 [cF n s] (greV n s) := by
 have pC := zo5 n s
 have hcl := zbh s
 refine zbd env0_ok fn21 [(0, cF n s)] (by show 1 ≤ 56; decide) rfl fun w0 N0 => ?_
 unfold ic21 greV
 refine za6 (za0 rfl (zd7 (cs := [.int .i64 n, .vs (cUs s)]) rfl rfl (za1 rfl (za1 rfl (za3 (za4 ?_))))))
 refine zd0 [] [(0, 0, [.int .i64 n, .vs (cUs s)])] [(1, .vptr [.int .i64 n, .vs (cUs s)])] rfl (.cons rfl rfl .nil) .nil (.cons rfl (.fptr rfl rfl) .nil) ?_
 repeat (first | refine za6 ?_ | refine za0 rfl ?_ | refine zb2 rfl rfl rfl rfl ?_)
 refine zay rfl rfl pC (fun h => Bool.noConfusion (show false = true from h)) ?_
 by_cases hc : ze8 n s = 0
 ·rw [if_pos hc, hc]
  have h12 := hn hc
  obtain ⟨n0, n1, s1, _⟩ := zf2 hc
  have pA := zsm n0 n1
  obtain ⟨N, rfl⟩ : ∃ N : Nat, n = (N : Int) := ⟨n.toNat, by omega⟩
  obtain ⟨hsz, hlt0⟩ := zsn (n := N) (by omega)
  repeat (first | refine za6 ?_ | refine za0 rfl ?_ | refine za3 ?_ | refine za4 ?_ | refine zad ?_ | refine zbt rfl ?_ | refine za1 rfl ?_ | refine zah rfl rfl ?_ | refine za9 rfl rfl rfl ?_ | refine zb5 rfl rfl rfl ?_)
  refine zay rfl rfl pA (fun h => Bool.noConfusion (show false = true from h)) ?_
  repeat (first | refine za3 ?_ | refine za4 ?_ | refine zai ?_ | refine za1 rfl ?_)
  refine zr4 5 1 rfl ?_
  obtain ⟨G, hG⟩ : ∃ G, zs8 s (szB (zce N) + 1) (zce N) [] = G := ⟨_, rfl⟩
  rw [hG]
  refine zcr (fun mm S => ∃ left out, mm = szB left ∧ left.toNat < 4096 ∧ out.length + szB left ≤ 12 ∧ G = zs8 s (szB left + 1) left out ∧
    S = st 56 [(1, .vptr [.int .i64 (N : Nat), .vs (cUs s)]), (5, .ms 0 0 1 0 out.length none), (6, cU left)] [(0, 0, .cells (out.map (AV.int .i64)))] 1 1) (szB (zce N))
   (zet [(some (0, 1), [])] [] rfl rfl rfl .nil (.cons rfl .nil .nil) (l' := [(1, .vptr [.int .i64 (N : Nat), .vs (cUs s)]), (5, .ms 0 0 1 0 0 none), (6, cU (zce N))]) (.cons rfl (.same rfl) (.cons rfl (.ms rfl) (.cons rfl (.same rfl) .nil)))) ⟨zce N, [], rfl, hlt0, by rw [hsz]; show 0 + N ≤ 12; omega, hG.symm, rfl⟩ ?_
  rintro mm S ⟨left, out, rfl, hl4, hol, hall, rfl⟩
  unfold b21_0
  repeat (first | refine za6 ?_ | refine za0 rfl ?_ | refine za1 rfl ?_)
  refine zax rfl rfl (zht _ (0#64)) (fun h3 => ?_) fun h3 => ?_
  ·have h3 : left ≠ 0#64 := by simpa using h3
   rw [zs8, if_neg h3] at hall
   repeat (first | refine za6 ?_ | refine za0 rfl ?_ | refine za3 ?_ | refine za4 ?_ | refine zai ?_ | refine zad ?_ | refine zc1 rfl ?_ | refine za1 rfl ?_ | refine zah rfl rfl ?_ | refine za9 rfl rfl rfl ?_ | refine zbf rfl rfl ?_)
   refine zcr (fun mm S => ∃ i, mm = s.length - i ∧ i ≤ s.length ∧
     S = st 56 [(1, .vptr [.int .i64 (N : Nat), .vs (cUs s)]), (5, .ms 0 0 1 0 out.length none), (6, cU left), (7, .int .i64 ((zdr s left i).1 : Nat)), (8, .int .i64 ((zdr s left i).2 : Nat)), (23, .vs (cUs s)), (24, .int .i64 (cUs s).length), (25, .int .i64 (i : Nat))] [(0, 0, .cells (out.map (AV.int .i64)))] 1 1) s.length
    (zaa (.cons rfl (.cons rfl (.cons rfl (.cons rfl (.cons rfl (.cons rfl (.cons rfl (.cons rfl .nil))))))))) ⟨0, rfl, Nat.zero_le _, rfl⟩ ?_
   rintro mm S ⟨i, rfl, hi, rfl⟩
   unfold b21_2
   repeat (first | refine za6 ?_ | refine za0 rfl ?_)
   refine zax rfl rfl rfl (fun h4 => ?_) fun h4 => ?_
   ·have hlt : i < s.length := by
     have : ((i : Nat) : Int) < ((cUs s).length : Nat) := of_decide_eq_true h4
     omega
    have hg := zid hlt
    have w1 : IntKind.wrap .i64 (((i : Nat) : Int) + 1) = ((i + 1 : Nat) : Int) := zb0 i (by omega)
    have hgd : s.getD i 0 = s[i] := by rw [List.getD_eq_getElem?_getD, List.getElem?_eq_getElem hlt]; rfl
    have hb : zdr s left (i + 1) = if szB (s[i] &&& left) > (zdr s left i).2 then (i, szB (s[i] &&& left)) else zdr s left i := by rw [zdr, hgd]
    have pO := ones26 (x := s[i] &&& left) (and_lt hl4)
    repeat (first | refine zac rfl rfl (ze1 _ _) ?_ | refine za6 ?_ | refine za0 rfl ?_ | refine za3 ?_ | refine za4 ?_ | refine zai ?_ | refine zad ?_ | refine zc1 rfl ?_ | refine za1 rfl ?_ | refine zah rfl rfl ?_ | refine zba rfl rfl (by omega) (by assumption) rfl ?_)
    refine zay rfl rfl pO (fun h => Bool.noConfusion (show false = true from h)) ?_
    repeat (first | refine za6 ?_ | refine za0 rfl ?_ | refine za3 ?_ | refine za4 ?_ | refine za1 rfl ?_)
    refine zax rfl rfl rfl (fun h5 => ?_) fun h5 => ?_
    ·have h5 : szB (s[i] &&& left) > (zdr s left i).2 := Int.ofNat_lt.1 (of_decide_eq_true h5)
     rw [if_pos h5] at hb
     repeat (first | refine za0 rfl ?_ | refine za3 ?_ | refine za4 ?_ | refine zbj ?_ | refine zc1 rfl ?_ | refine za1 rfl ?_ | refine zac (op := .add) rfl rfl rfl ?_)
     rw [w1]
     exact zb4 (show s.length - (i + 1) < s.length - i by omega) (zaa (.cons rfl (.cons rfl (.cons rfl (.cons rfl (.cons rfl (.cons rfl (.cons rfl (.cons rfl .nil))))))))) ⟨i + 1, rfl, hlt, by rw [hb]⟩
    ·have h5 : ¬ szB (s[i] &&& left) > (zdr s left i).2 := fun h => of_decide_eq_false h5 (Int.ofNat_lt.2 h)
     rw [if_neg h5] at hb
     repeat (first | refine za0 rfl ?_ | refine za3 ?_ | refine za4 ?_ | refine zbj ?_ | refine zad ?_ | refine zbt rfl ?_ | refine za1 rfl ?_ | refine zac (op := .add) rfl rfl rfl ?_)
     rw [w1]
     exact zb4 (show s.length - (i + 1) < s.length - i by omega) (zaa (.cons rfl (.cons rfl (.cons rfl (.cons rfl (.cons rfl (.cons rfl (.cons rfl (.cons rfl .nil))))))))) ⟨i + 1, rfl, hlt, by rw [hb]⟩
   ·have hi2 : i = s.length := by
     have : ¬ ((i : Nat) : Int) < ((cUs s).length : Nat) := of_decide_eq_false h4
     omega
    rw [hi2]
    have hbl := zl0 s left s.length
    generalize zdr s left s.length = B at *
    obtain ⟨B1, B2⟩ := B
    repeat (first | refine za6 ?_ | refine za3 ?_ | refine za4 ?_ | refine zbt rfl ?_ | refine zbc ?_ | refine zaf ?_)
    refine ze6 ?_
    repeat (first | refine za6 ?_ | refine za0 rfl ?_ | refine za4 ?_ | refine zbb ?_ | refine za1 rfl ?_)
    by_cases hz : B2 = 0
    ·subst hz
     rw [if_pos rfl] at hall
     rw [hall]
     repeat (first | refine za6 ?_ | refine za0 rfl ?_ | refine za3 ?_ | refine za4 ?_ | refine zc1 rfl ?_ | refine zas ?_ | refine za8 ?_ | refine zab ?_ | refine za1 rfl ?_ | refine zbr rfl rfl rfl ?_)
     refine zbk ?_
     repeat (first | refine za8 ?_ | refine zab ?_)
     exact zal ⟨.inr rfl, _, rfl, rfl⟩
    ·rw [if_neg hz] at hall
     obtain ⟨hb1, hb2⟩ := hbl hz
     have hb1 : B1 < s.length := hb1
     have hb2 : B2 = szB (s.getD B1 0 &&& left) := hb2
     have hg2 := zl3 (Int.natCast_nonneg B1) (s := s) (by rw [Int.toNat_natCast]; exact hb1)
     rw [Int.toNat_natCast] at hg2
     have hsp := zqy left (s.getD B1 0)
     rw [BitVec.and_comm left (s.getD B1 0), ← hb2] at hsp
     have hfu : zs8 s (szB left) (left &&& ~~~ s.getD B1 0) (out ++ [(B1 : Int)]) = zs8 s (szB (left &&& ~~~ s.getD B1 0) + 1) (left &&& ~~~ s.getD B1 0) (out ++ [(B1 : Int)]) := zn4 s _ _ _ _ (by omega) (Nat.lt_succ_self _)
     refine zb5 rfl rfl (by show some (AV.bool ((B2 : Int) == 0)) = _; rw [show ((B2 : Int) == 0) = false by rw [beq_eq_false_iff_ne]; omega]) ?_
     repeat (first | refine za6 ?_ | refine za0 rfl ?_ | refine za3 ?_ | refine za4 ?_ | refine zad ?_ | refine zbt rfl ?_ | refine za1 rfl ?_ | refine zbg rfl rfl ?_)
     refine zoo [[.int .i64 (B1 : Nat)]] rfl rfl (zdj (ys := []) zav rfl (fun x hx => by obtain rfl := List.mem_singleton.1 hx; rfl)) (fun h => Nat.noConfusion h) rfl (by decide) (by (repeat (first | rw [zag, if_pos rfl] | rw [zag, if_neg (by omega)])); try rfl) (by rw [List.length_map, Nat.mul_one]) (by show _ + 1 ≤ _; omega) ?_
     repeat (first | refine za0 rfl ?_ | refine za3 ?_ | refine za4 ?_ | refine za1 rfl ?_ | refine zah rfl rfl ?_ | refine za9 rfl rfl rfl ?_)
     refine zba rfl rfl (Int.natCast_nonneg B1) (by rw [Int.toNat_natCast]; exact hg2) rfl ?_
     repeat (first | refine zac rfl rfl (zh1 _ _) ?_ | refine za3 ?_ | refine zbj ?_ | refine za1 rfl ?_ | refine zah rfl rfl ?_)
     exact zb4 (show szB (left &&& ~~~ s.getD B1 0) < szB left by omega) (zet [(some (0, 2), (out ++ [(B1 : Int)]).map (AV.int .i64))] [] rfl rfl rfl .nil (.cons (by rw [za5, if_pos rfl]; rw [List.map_append]; rfl) (.keep (zka _)) .nil) (l' := [(1, .vptr [.int .i64 (N : Nat), .vs (cUs s)]), (5, .ms 0 0 1 0 (out.length + 1) none), (6, cU (left &&& ~~~ s.getD B1 0))]) (.cons rfl (.same rfl) (.cons rfl (.ms rfl) (.cons rfl (.same rfl) .nil)))) ⟨_, out ++ [(B1 : Int)], rfl, and_lt2 hl4, by rw [List.length_append, List.length_singleton]; omega, by
      exact hall.trans hfu, by rw [List.length_append]; rfl⟩
  ·have h3 : left = 0#64 := by
    cases hb : left == 0#64 with
    | true => exact eq_of_beq hb
    | false =>
     have : (left != 0#64) = true := by rw [bne, hb]; rfl
     rw [this] at h3
     cases h3
   rw [zs8, if_pos h3] at hall
   rw [hall]
   repeat (first | refine za3 ?_ | refine za4 ?_ | refine zbt rfl ?_ | refine zbc ?_ | refine zaf ?_)
   refine ze6 ?_
   repeat (first | refine za6 ?_ | refine za0 rfl ?_ | refine za4 ?_ | refine zbb ?_ | refine za1 rfl ?_)
   refine o_ct _ rfl rfl (zho (first := []) (cap := []) (by rw [List.nil_append, List.append_nil]; exact sort53 out rfl (by omega) _ rfl (Nat.lt_succ_self _))) (fun _ _ _ _ h => absurd h List.not_mem_nil) fun v1 H1 hF => ?_
   obtain ⟨hk, hl1⟩ := hF
   repeat (first | refine za6 ?_ | refine za0 rfl ?_ | refine za3 ?_ | refine za4 ?_ | refine zas ?_ | refine za1 rfl ?_)
   exact zal ⟨.inr rfl, _, rfl, congrArg AV.tup (zva (zw6 (d := 2) (sp := 0) (zp3 out) (zq4 _ _ _) hl1) rfl)⟩
 ·rw [if_neg hc]
  repeat (first | refine za6 ?_ | refine za0 rfl ?_ | refine za3 ?_ | refine za4 ?_ | refine za1 rfl ?_)
  refine zax rfl rfl rfl (fun h => ?_) fun h => absurd (by simpa using h) hc
  repeat (first | refine za6 ?_ | refine za0 rfl ?_ | refine za3 ?_ | refine za4 ?_ | refine zc1 rfl ?_ | refine zas ?_ | refine za8 ?_ | refine za1 rfl ?_)
  exact zal ⟨.inr rfl, _, rfl, rfl⟩
end Go.Proofs.Ytknomkcdpcnmaaa
