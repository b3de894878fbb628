/-
  SPARE SETS: setcover.Spare, and the same of the reference.
-/
import Derived.Test.YtknomkcdpcnmaaaKV4
namespace Go.Proofs.Ytknomkcdpcnmaaa
open Go Go.Am
def b35_1 : IC := .seq (.region [⟨(some 27), .bin .lss (.t 26) (.t 25), none⟩] none)
 (.seq (.cond (.t 27) (.skip)
 (.exit 1))
 (.seq (.block 2 (.seq (.region [⟨(some 28), .mov (.t 26), none⟩,
  ⟨(some 29), .idxs 1 (.t 24) (.t 26), none⟩,
  ⟨(some 30), .load none (.t 29), none⟩,
  ⟨(some 9), .mov (.t 28), none⟩,
  ⟨(some 10), .mov (.t 30), none⟩] none)
 (.seq (.region [⟨(some 31), .load (some 2) (.t 2), none⟩,
  ⟨(some 32), .mov (.t 1), none⟩,
  ⟨(some 33), .call (.c (.fn 45 [] [])) [(.t 32)], none⟩,
  ⟨(some 34), .mov (.t 9), none⟩,
  ⟨(some 35), .mov (.t 9), none⟩,
  ⟨(some 36), .bin .add (.t 35) (.c (.int .i64 1)), none⟩,
  ⟨(some 37), .call (.c (.fn 63 [] [])) [(.t 33), (.t 34), (.t 36)], none⟩,
  ⟨(some 38), .call (.c (.fn 57 [] [])) [(.t 31), (.t 37)], none⟩,
  ⟨(some 39), .faddr 0 (.t 2), none⟩,
  ⟨(some 40), .load none (.t 39), none⟩,
  ⟨(some 41), .call (.c (.fn 43 [] [])) [(.t 40)], none⟩,
  ⟨(some 42), .bin .eql (.t 38) (.t 41), none⟩] (some [[], [], [1], [], [], [4], [2, 3, 5, 2], [0, 6, 6], [], [8], [9, 7], [7, 10]]))
 (.cond (.t 42) (.region [⟨(some 43), .mov (.t 8), none⟩,
  ⟨(some 44), .mov (.t 10), none⟩,
  ⟨(some 45), .bslice 1 1 [.int .i64 0] [(0, 1, (.t 44))], none⟩,
  ⟨(some 46), .append 1 8 [.int .i64 0] (.t 43) (.t 45), none⟩,
  ⟨(some 8), .mov (.t 46), none⟩] none)
 (.skip)))))
 (.region [⟨(some 47), .bin .add (.t 26) (.c (.int .i64 1)), none⟩,
  ⟨(some 26), .mov (.t 47), none⟩] none)))
-- pneumatic/setcover.Spare
def ic35 : IC := .seq (.region [⟨(some 2), .box (.t 0), none⟩,
  ⟨(some 4), .mov (.c (.nils)), none⟩,
  ⟨(some 5), .mov (.c (.int .i64 0)), none⟩] none)
 (.seq (.region [⟨(some 12), .load (some 2) (.t 2), none⟩,
  ⟨(some 13), .mov (.t 1), none⟩,
  ⟨(some 14), .call (.c (.fn 33 [] [])) [(.t 12), (.t 13)], none⟩,
  ⟨(some 11), .mov (.t 14), none⟩,
  ⟨(some 15), .extract (.t 11) 0, none⟩,
  ⟨(some 16), .extract (.t 11) 1, none⟩,
  ⟨(some 6), .mov (.t 15), none⟩,
  ⟨(some 7), .mov (.t 16), none⟩] none)
 (.seq (.block 0 (.seq (.region [⟨(some 18), .mov (.t 7), none⟩,
  ⟨(some 19), .bin .neq (.t 18) (.c (.int .i64 0)), none⟩,
  ⟨(some 17), .mov (.t 19), none⟩] none)
 (.cond (.t 17) (.seq (.region [⟨(some 20), .mov (.t 7), none⟩,
  ⟨(some 4), .mov (.c (.nils)), none⟩,
  ⟨(some 5), .mov (.t 20), none⟩] none)
 (.ret))
 (.seq (.region [⟨(some 22), .mov (.t 6), none⟩,
  ⟨(some 23), .un .not (.t 22), none⟩,
  ⟨(some 21), .mov (.t 23), none⟩] none)
 (.cond (.t 21) (.seq (.region [⟨(some 4), .mov (.c (.nils)), none⟩,
  ⟨(some 5), .mov (.c (.int .i64 14)), none⟩] none)
 (.ret))
 (.skip))))))
 (.seq (.region [⟨(some 8), .mov (.c (.nils)), none⟩] none)
 (.seq (.seq (.region [⟨(some 24), .mov (.t 1), none⟩,
  ⟨(some 25), .len false (.t 24), none⟩,
  ⟨(some 26), .mov (.c (.int .i64 0)), none⟩] none)
 (.block 1 (.loop b35_1)))
 (.seq (.region [⟨(some 48), .mov (.t 8), none⟩,
  ⟨(some 4), .mov (.t 48), none⟩,
  ⟨(some 5), .mov (.c (.int .i64 0)), none⟩] none)
 (.ret))))))
theorem fn35 : env0.fn 35 = some ⟨49, ic35, [.t 4, .t 5]⟩ := by kernel_rfl
theorem zuq {c : List Int} {P : Int → Prop} (h : ∀ z ∈ c, P z) (i : Nat) : ∀ z ∈ c.eraseIdx i, P z := fun z hz => h z (List.mem_of_mem_eraseIdx hz)
set_option maxHeartbeats 2000000 in
theorem spare35 (n : Int) (s : List (BitVec 64)) (hs : s.length ≤ 1000000) (c : List Int) (hl : c.length ≤ 1000000) : PF Try.prog 35 [cF n s, vsI c] (spaV n s c) := by
 have pC := covers33 n s hs c hl
 have hvl := zkd c
 refine zc2 env0_ok fn35 [(0, cF n s), (1, .vs (vL c))] (by show 2 ≤ 49; decide) rfl fun w0 N0 => ?_
 unfold ic35 spaV
 unfold covV at pC
 refine za7 (za0 rfl (zbp (cs := [.int .i64 n, .vs (cUs s)]) rfl rfl (za2 rfl (za2 rfl (za5 (za6 ?_))))))
 refine zdt [] [(0, 0, [.int .i64 n, .vs (cUs s)])] [(1, .vs (vL c)), (2, .vptr [.int .i64 n, .vs (cUs s)])] rfl (.cons rfl rfl .nil) .nil (.cons rfl (.same rfl) (.cons rfl (.fptr rfl rfl) .nil)) ?_
 repeat (first | refine za7 ?_ | refine za0 rfl ?_ | refine za2 rfl ?_ | refine zau rfl rfl rfl rfl ?_)
 refine zbm rfl rfl pC (fun h => Bool.noConfusion (show false = true from h)) ?_
 by_cases hg : zom n s c s.length = 0
 ·rw [if_pos hg, if_pos hg]
  obtain ⟨hc, ho⟩ := zv6 hg
  obtain ⟨n0, n1, s1, _⟩ := ze5 hc
  have hin := zml ho
  have hin2 : ∀ z ∈ c, 0 ≤ z ∧ z < s.length := fun z hz => ⟨(hin z hz).1, (hin z hz).2.1⟩
  have pA := zos n0 n1
  cases h2 : zki n s c with
  | false =>
   rw [if_neg (by decide)]
   repeat (first | refine za7 ?_ | refine za0 rfl ?_ | refine za5 ?_ | refine za6 ?_ | refine zaf ?_ | refine zbz rfl ?_ | refine zbw rfl ?_ | refine zaz ?_ | refine za3 ?_ | refine za9 ?_ | refine za2 rfl ?_ | refine zdc rfl rfl ?_ | refine zag rfl rfl ?_ | refine zb0 rfl rfl rfl ?_)
   exact zbe ⟨.inr rfl, _, rfl, rfl⟩
  | true =>
  rw [if_pos rfl]
  repeat (first | refine za7 ?_ | refine za0 rfl ?_ | refine za5 ?_ | refine za6 ?_ | refine zbc ?_ | refine zaf ?_ | refine zah ?_ | refine zbw rfl ?_ | refine za2 rfl ?_ | refine zdc rfl rfl ?_ | refine zbb rfl rfl ?_ | refine zag rfl rfl ?_ | refine zb0 rfl rfl rfl ?_)
  refine zoj 8 1 rfl ?_
  refine zd5 (fun mm S => ∃ i, mm = c.length - i ∧ i ≤ c.length ∧ S = st 49 [(1, .vs (vL c)), (2, .vptr [.int .i64 n, .vs (cUs s)]), (8, .ms 0 0 1 0 (ztb n s c i).length none), (24, .vs (vL c)), (25, .int .i64 c.length), (26, .int .i64 (i : Nat))] [(0, 0, .cells ((ztb n s c i).map (AV.int .i64)))] 1 1) c.length
   (zdn [(some (0, 1), [])] [] rfl rfl rfl .nil (.cons rfl .nil .nil) (l' := [(1, .vs (vL c)), (2, .vptr [.int .i64 n, .vs (cUs s)]), (8, .ms 0 0 1 0 0 none), (24, .vs (vL c)), (25, .int .i64 c.length), (26, .int .i64 ((0 : Nat) : Int))]) (.cons rfl (.same rfl) (.cons rfl (.same rfl) (.cons rfl (.ms rfl) (.cons rfl (.same rfl) (.cons (by rw [← hvl]; rfl) (.same rfl) (.cons rfl (.same rfl) .nil))))))) ⟨0, rfl, Nat.zero_le _, rfl⟩ ?_
  rintro mm S ⟨i, rfl, hi, rfl⟩
  have hsl := spaL_len n s c i
  unfold b35_1
  repeat (first | refine za7 ?_ | refine za0 rfl ?_)
  refine zbt rfl rfl rfl (fun h3 => ?_) fun h3 => ?_
  ·have hlt : i < c.length := Int.ofNat_lt.1 (of_decide_eq_true h3)
   have pU2 := zq2 n s (c.eraseIdx i) (by rw [List.length_eraseIdx]; split <;> omega) (zuq hin2 i)
   have hg : (vL c)[((i : Nat) : Int).toNat]? = some [.int .i64 c[i]] := zeo hlt
   have hss := zwu (n := n) (s := s) hlt
   have w1 : IntKind.wrap .i64 (((i : Nat) : Int) + 1) = ((i + 1 : Nat) : Int) := zbu i (by omega)
   have hne : c ≠ [] := fun e => by rw [e] at hlt; exact absurd hlt (Nat.not_lt_zero _)
   generalize ztb n s c i = out at *
   repeat (first | refine za7 ?_ | refine za0 rfl ?_ | refine za5 ?_ | refine za6 ?_ | refine zaf ?_ | refine zah ?_ | refine zbz rfl ?_ | refine za2 rfl ?_ | refine zam rfl rfl ?_ | refine zb7 rfl rfl (by omega) (by assumption) rfl ?_)
   refine z_drawnT env0_ok [(57, [cF n s, vsI (c.eraseIdx i)], cU (uni s (c.eraseIdx i))), (43, [.int .i64 n], cU (zc5 n))] (fun x hx => by
    rcases List.mem_cons.1 hx with rfl | hx
    ·exact pU2
    obtain rfl := List.mem_singleton.1 hx
    exact pA) (fun f => Nat.beq f 57 || Nat.beq f 43)
    [(45, [vsI c], ⟨[(0, 0, .cells (out.map (AV.int .i64)))], 1, 1⟩, .ms 2 2 1 0 c.length none, ⟨[(2, 2, .cells (c.map (AV.int .i64))), (1, 1, .cells []), (0, 0, .cells (out.map (AV.int .i64)))], 3, 3⟩),
     (63, [.ms 2 2 1 0 c.length none, .int .i64 (i : Nat), .int .i64 ((i + 1 : Nat) : Int)], ⟨[(2, 2, .cells (c.map (AV.int .i64))), (1, 1, .cells []), (0, 0, .cells (out.map (AV.int .i64)))], 3, 3⟩, vsI (c.eraseIdx i), ⟨[(1, 1, .cells []), (0, 0, .cells (out.map (AV.int .i64)))], 3, 3⟩)]
    (fun x hx w0 N0 => by
     rcases List.mem_cons.1 hx with rfl | hx
     ·exact clone45t c hne hl _
     obtain rfl := List.mem_singleton.1 hx
     exact zun c hl i hlt _ rfl) false (fun _ => false) (fun _ => true) (fun _ _ => rfl) (fun _ h _ => Bool.noConfusion h) rfl rfl rfl rfl ?_
   repeat (first | refine za2 rfl ?_ | refine zau rfl rfl rfl rfl ?_)
   refine o_told rfl rfl (fun _ => rfl) zky ?_
   repeat (first | refine za2 rfl ?_ | refine zae (op := .add) rfl rfl rfl ?_)
   rw [w1]
   refine o_told rfl rfl (fun _ => rfl) (zso (by decide) zky) ?_
   refine zbm rfl rfl zd9 (fun h => Bool.noConfusion (show false = true from h)) ?_
   repeat (first | refine zam rfl rfl ?_ | refine zad rfl rfl rfl ?_)
   refine zbm rfl rfl (zhn (by decide) zd9) (fun h => Bool.noConfusion (show false = true from h)) ?_
   refine zbt rfl rfl (zdl _ _) (fun h => ?_) fun h => ?_
   ·rw [show zki n s (c.eraseIdx i) = true from h, if_pos rfl] at hss
    repeat (first | refine za0 rfl ?_ | refine za5 ?_ | refine za6 ?_ | refine zbz rfl ?_ | refine za2 rfl ?_ | refine zal rfl rfl ?_)
    refine zjx [[.int .i64 c[i]]] rfl rfl (zdz (ys := []) zbs rfl (fun x hx => by obtain rfl := List.mem_singleton.1 hx; rfl)) (fun h => Nat.noConfusion h) rfl (by decide) (by (repeat (first | rw [zb6, if_pos rfl] | rw [zb6, if_neg (by omega)])); try rfl) (by rw [List.length_map, Nat.mul_one]) (by show _ + 1 ≤ _; omega) ?_
    repeat (first | refine za0 rfl ?_ | refine za5 ?_ | refine za6 ?_ | refine zbc ?_ | refine za2 rfl ?_ | refine zae (op := .add) rfl rfl rfl ?_)
    exact zby (show c.length - (i + 1) < c.length - i by omega) (zdn [(some (0, 4), (out ++ [c[i]]).map (AV.int .i64))] [] rfl rfl rfl .nil (.cons (by rw [zab, if_pos rfl]; rw [List.map_append]; rfl) (.keep (zeq _)) .nil) (l' := [(1, .vs (vL c)), (2, .vptr [.int .i64 n, .vs (cUs s)]), (8, .ms 0 0 1 0 (out.length + 1) none), (24, .vs (vL c)), (25, .int .i64 c.length), (26, .int .i64 ((i + 1 : Nat) : Int))]) (.cons rfl (.same rfl) (.cons rfl (.same rfl) (.cons rfl (.ms rfl) (.cons rfl (.same rfl) (.cons rfl (.same rfl) (.cons (by rw [← w1]; rfl) (.same rfl) .nil))))))) ⟨i + 1, rfl, hlt, by rw [hss, List.length_append]; rfl⟩
   ·rw [show zki n s (c.eraseIdx i) = false from h, if_neg (by decide)] at hss
    repeat (first | refine za0 rfl ?_ | refine za5 ?_ | refine za6 ?_ | refine zbc ?_ | refine zah ?_ | refine zbw rfl ?_ | refine za2 rfl ?_ | refine zae (op := .add) rfl rfl rfl ?_)
    exact zby (show c.length - (i + 1) < c.length - i by omega) (zdn [(some (0, 0), out.map (AV.int .i64))] [] rfl rfl rfl .nil (.cons rfl (.keep (zeq _)) .nil) (l' := [(1, .vs (vL c)), (2, .vptr [.int .i64 n, .vs (cUs s)]), (8, .ms 0 0 1 0 out.length none), (24, .vs (vL c)), (25, .int .i64 c.length), (26, .int .i64 ((i + 1 : Nat) : Int))]) (.cons rfl (.same rfl) (.cons rfl (.same rfl) (.cons rfl (.ms rfl) (.cons rfl (.same rfl) (.cons rfl (.same rfl) (.cons (by rw [← w1]; rfl) (.same rfl) .nil))))))) ⟨i + 1, rfl, hlt, by rw [hss]; rfl⟩
  ·have hi2 : i = c.length := by
    have : ¬ i < c.length := fun h => of_decide_eq_false h3 (Int.ofNat_lt.2 h)
    omega
   subst hi2
   repeat (first | refine za7 ?_ | refine za5 ?_ | refine za6 ?_ | refine zbw rfl ?_ | refine zb3 ?_ | refine za8 ?_)
   refine zeb ?_
   repeat (first | refine za7 ?_ | refine za0 rfl ?_ | refine za5 ?_ | refine za6 ?_ | refine zaz ?_ | refine zb2 ?_ | refine za2 rfl ?_)
   refine zbe ⟨.inr rfl, _, rfl, ?_⟩
   exact congrArg AV.tup (zpl (zoh (d := 2) (sp := 0) _ rfl rfl) rfl)
 ·rw [if_neg hg, if_neg hg]
  repeat (first | refine za7 ?_ | refine za0 rfl ?_ | refine za5 ?_ | refine za6 ?_ | refine zaf ?_ | refine za2 rfl ?_ | refine zag rfl rfl ?_)
  refine zbt rfl rfl rfl (fun h => ?_) fun h => absurd (by simpa using h) hg
  repeat (first | refine za7 ?_ | refine za0 rfl ?_ | refine za5 ?_ | refine za6 ?_ | refine zbz rfl ?_ | refine zaz ?_ | refine za3 ?_ | refine za9 ?_ | refine za2 rfl ?_)
  exact zbe ⟨.inr rfl, _, rfl, rfl⟩
end Go.Proofs.Ytknomkcdpcnmaaa
