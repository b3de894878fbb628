/-
  THE SIMPLE FORM OF A NODE WHOSE ARGUMENTS ARE SIMPLE.
-/
import Derived.Test.YtmnkjofaodbokaaMX5
namespace Go.Proofs.Ytmnkjofaodbokaa
open Go Go.Am
def memX (l : List Ex) (z : Ex) : Bool := l.any (eqX z)
def zds (ne : Bool) (l : List Ex) (z : Ex) : List Ex := if (!isX z ne && !memX l z) = true then l ++ [z] else l
def zdt (op : Int) (y : Ex) : List Ex := if opX y = op then zrm y else [y]
def zdv (op : Int) (ne : Bool) (l args : List Ex) : List Ex := args.foldl (fun l y => (zdt op y).foldl (zds ne) l) l
def zoo (ne : Bool) (l : List Ex) (y : Ex) : Bool := isX y (!ne) || memX l (negX y)
def lastX (op : Int) (ne : Bool) : List Ex → Ex
 | [] => zk3 ne
 | [y] => y
 | l => .nd op 0 l
def zk1 (op : Int) (ne : Bool) (l : List Ex) : Ex := if l.any (zoo ne l) = true then zk3 (!ne) else lastX op ne l
def zp7 (ix : Int) (y : Ex) : Ex := if opX y = 0 then zk3 (ixX y == 0) else if opX y = 2 then (zrm y).headD y else .nd 2 ix [y]
def zd4 : Ex → Ex
 | .nd op ix args => if op = 2 then (match args with
   | [y] => zp7 ix y
   | l => .nd 2 ix l) else if op = 3 ∨ op = 4 then zk1 op (op == 3) (zdv op (op == 3) [] args) else .nd op ix args
theorem zrb {l : List Ex} {i : Nat} (h : i < l.length) : szL (l.drop i) = szX l[i] + szL (l.drop (i + 1)) := by
 rw [List.drop_eq_getElem_cons h, szL]
theorem zmf : ∀ l m : List Ex, szL (l ++ m) = szL l + szL m
 | [], m => by rw [List.nil_append, szL]; omega
 | x :: l, m => by rw [List.cons_append, szL, szL, zmf l m]; omega
theorem zph (y : Ex) : szX y = 1 + szL (zrm y) := by cases y; rw [szX]; rfl
theorem zw9 {l : List Ex} {y : Ex} (h : y ∈ l) : szX y ≤ szL l := by
 induction l with
 | nil => cases h
 | cons a l ih =>
  have := zdq a
  have := zc9 l
  rw [szL]
  rcases List.mem_cons.1 h with rfl | h
  ·omega
  ·have := ih h; omega
structure Cq (q : List Ex) (w : AV) (hp : List (Nat × Nat × AObj)) (nx : Nat) : Prop where
 res : Am.look 0 hp = some (0, .cells [.int .i64 0, .int .i64 0, .nils])
 lst : Gx 0 q w hp nx
 nx0 : 0 < nx
section
variable {q : List Ex} {w : AV} {hp : List (Nat × Nat × AObj)} {nx : Nat}
theorem Cq.fresh (h : Cq q w hp nx) (ck : Nat) (x : AObj) : Cq q w ((nx, ck, x) :: hp) (nx + 1) := by
 have h1 := h.nx0
 exact ⟨by rw [zbl, if_neg (by omega)]; exact h.res, h.lst.fresh ck x, by omega⟩
theorem Cq.drop (h : Cq q w hp nx) {j : Nat} (hj : nx ≤ j) : Cq q w (zca j hp) nx := by
 have h1 := h.nx0
 refine ⟨by rw [zbg, if_neg (by omega)]; exact h.res, ?_, h1⟩
 rcases h.lst with h2 | ⟨id, sp, e, hl, a, b⟩
 ·exact .inl h2
 ·exact .inr ⟨id, sp, e, by rw [zbg, if_neg (by omega)]; exact hl, a, b⟩
theorem Cq.box (h : Cq q w hp nx) (ck : Nat) (x : AObj) (y : Nat × AObj) : Cq q w (zca nx (zcc nx y ((nx, ck, x) :: hp))) (nx + 1) := by
 have h1 := h.nx0
 refine ⟨by rw [zbg, if_neg (by omega), za6, if_neg (by omega), zbl, if_neg (by omega)]; exact h.res, ?_, by omega⟩
 rcases h.lst with h2 | ⟨id, sp, e, hl, a, b⟩
 ·exact .inl h2
 ·exact .inr ⟨id, sp, e, by rw [zbg, if_neg (by omega), za6, if_neg (by omega), zbl, if_neg (by omega)]; exact hl, a, by omega⟩
theorem Cq.box1 (h : Cq q w hp nx) (ck : Nat) (x : AObj) : Cq q w (zca nx ((nx, ck, x) :: hp)) (nx + 1) := by
 have h1 := h.nx0
 refine ⟨by rw [zbg, if_neg (by omega), zbl, if_neg (by omega)]; exact h.res, ?_, by omega⟩
 rcases h.lst with h2 | ⟨id, sp, e, hl, a, b⟩
 ·exact .inl h2
 ·exact .inr ⟨id, sp, e, by rw [zbg, if_neg (by omega), zbl, if_neg (by omega)]; exact hl, a, by omega⟩
theorem z_cq {P : Program} {w0 : World} {N0 n ck : Nat} {k : List Fr} {Q : Exit → AS → Prop} {ic : IC} {l : List (Nat × AV)} {g a : AV} {d1 d2 d3 d4 : Nat} (hF : Cq q w hp nx) (h1 : zei d1 l = some g) (mg : hasM g = false) (h2 : zei d2 l = some (.mptr 0 0 0)) (h3 : zei d3 l = some a) (ma : hasM a = false) (h4 : zei d4 l = some w)
  (go : Zm P w0 N0 none ic (st n [(d1, g), (d2, .mptr 0 0 0), (d3, a), (d4, .vs (cXs q))] [(0, 0, .cells [.int .i64 0, .int .i64 0, .nils])] 1 1) k Q) : Zm P w0 N0 none ic (st n l hp nx ck) k Q := by
 rcases hF.lst with ⟨rfl, rfl⟩ | ⟨id, sp, rfl, hl, h5, _⟩
 ·exact zct [(some (0, 0), [.int .i64 0, .int .i64 0, .nils])] [] [(d1, g), (d2, .mptr 0 0 0), (d3, a), (d4, .vs (cXs []))] rfl .nil (.cons hF.res (.cons (.same rfl) (.cons (.same rfl) (.cons (.same rfl) .nil))) .nil) (.cons h1 (.same mg) (.cons h2 (.mptr rfl) (.cons h3 (.same ma) (.cons h4 .nilvs .nil)))) go
 ·have hok : okW [id] [(some (0, 0), [.int .i64 0, .int .i64 0, .nils])] = true := by
   show (!memN 0 [id] && true) = true
   rw [zp5 (by simp; omega)]
   rfl
  have hfz : fzl id sp [(id, sp, (cXs q).flatten)] = some (cXs q).flatten := by
   unfold fzl
   simp
  exact zct [(some (0, 0), [.int .i64 0, .int .i64 0, .nils])] [(id, sp, (cXs q).flatten)] [(d1, g), (d2, .mptr 0 0 0), (d3, a), (d4, .vs (cXs q))] hok (.cons hl (zp6 q) .nil) (.cons hF.res (.cons (.same rfl) (.cons (.same rfl) (.cons (.same rfl) .nil))) .nil) (.cons h1 (.same mg) (.cons h2 (.mptr rfl) (.cons h3 (.same ma) (.cons h4 (.fms hfz (zbi q) zhw ⟨[], by rw [List.drop_zero, List.append_nil]⟩) .nil)))) go
end
def b58_3 : IC := .seq (.region [⟨(some 66), .bin .lss (.t 65) (.t 64), none⟩] none)
 (.seq (.cond (.t 66) (.skip)
 (.exit 3))
 (.seq (.block 4 (.seq (.region [⟨(some 67), .idxs 3 (.t 63) (.t 65), none⟩,
  ⟨(some 68), .load (some 3) (.t 67), none⟩,
  ⟨(some 10), .alloc [.int .i64 0, .int .i64 0, .nils], none⟩,
  ⟨none, .store 3 (.t 10) (.t 68), none⟩] none)
 (.seq (.region [⟨(some 69), .load (some 3) (.t 10), none⟩,
  ⟨(some 70), .mov (.t 4), none⟩,
  ⟨(some 71), .call (.c (.fn 85 [] [])) [(.t 69), (.t 70)], none⟩,
  ⟨(some 72), .un .not (.t 71), none⟩,
  ⟨(some 73), .mov (.t 72), none⟩,
  ⟨(some 74), .mov (.t 5), some (73, true)⟩,
  ⟨(some 75), .load (some 3) (.t 10), some (73, true)⟩,
  ⟨(some 76), .call (.c (.fn 86 [] [])) [(.t 74), (.t 75)], some (73, true)⟩,
  ⟨(some 77), .un .not (.t 76), some (73, true)⟩,
  ⟨(some 78), .pick (.t 73) (.t 77) (.c (.bool false)), none⟩] none)
 (.cond (.t 78) (.region [⟨(some 79), .mov (.t 5), none⟩,
  ⟨(some 80), .load (some 3) (.t 10), none⟩,
  ⟨(some 81), .bslice 3 1 [.int .i64 0, .int .i64 0, .nils] [(0, 3, (.t 80))], none⟩,
  ⟨(some 82), .append 3 40 [.int .i64 0, .int .i64 0, .nils] (.t 79) (.t 81), none⟩,
  ⟨(some 5), .mov (.t 82), none⟩] none)
 (.skip)))))
 (.region [⟨(some 83), .bin .add (.t 65) (.c (.int .i64 1)), none⟩,
  ⟨(some 65), .mov (.t 83), none⟩] none)))
def b58_1 : IC := .seq (.region [⟨(some 51), .bin .lss (.t 50) (.t 49), none⟩] none)
 (.seq (.cond (.t 51) (.skip)
 (.exit 1))
 (.seq (.block 2 (.seq (.region [⟨(some 52), .idxs 3 (.t 48) (.t 50), none⟩,
  ⟨(some 53), .load (some 3) (.t 52), none⟩,
  ⟨(some 7), .alloc [.int .i64 0, .int .i64 0, .nils], none⟩,
  ⟨none, .store 3 (.t 7) (.t 53), none⟩] none)
 (.seq (.region [⟨(some 54), .load (some 3) (.t 7), none⟩,
  ⟨(some 55), .bslice 3 1 [.int .i64 0, .int .i64 0, .nils] [(0, 3, (.t 54))], none⟩,
  ⟨(some 8), .mov (.t 55), none⟩] none)
 (.seq (.seq (.region [⟨(some 56), .faddr 0 (.t 7), none⟩,
  ⟨(some 57), .load none (.t 56), none⟩,
  ⟨(some 58), .faddr 0 (.t 1), none⟩,
  ⟨(some 59), .load none (.t 58), none⟩,
  ⟨(some 60), .bin .eql (.t 57) (.t 59), none⟩] none)
 (.cond (.t 60) (.region [⟨(some 61), .faddr 2 (.t 7), none⟩,
  ⟨(some 62), .load none (.t 61), none⟩,
  ⟨(some 8), .mov (.t 62), none⟩] none)
 (.skip)))
 (.seq (.region [⟨(some 63), .mov (.t 8), none⟩,
  ⟨(some 64), .len false (.t 63), none⟩,
  ⟨(some 65), .mov (.c (.int .i64 0)), none⟩] none)
 (.block 3 (.loop b58_3)))))))
 (.region [⟨(some 84), .bin .add (.t 50) (.c (.int .i64 1)), none⟩,
  ⟨(some 50), .mov (.t 84), none⟩] none)))
def b58_5 : IC := .seq (.region [⟨(some 88), .bin .lss (.t 87) (.t 86), none⟩] none)
 (.seq (.cond (.t 88) (.skip)
 (.exit 5))
 (.seq (.block 6 (.seq (.region [⟨(some 89), .idxs 3 (.t 85) (.t 87), none⟩,
  ⟨(some 90), .load (some 3) (.t 89), none⟩,
  ⟨(some 12), .alloc [.int .i64 0, .int .i64 0, .nils], none⟩,
  ⟨none, .store 3 (.t 12) (.t 90), none⟩] none)
 (.seq (.region [⟨(some 91), .load (some 3) (.t 12), none⟩,
  ⟨(some 92), .mov (.t 4), none⟩,
  ⟨(some 93), .un .not (.t 92), none⟩,
  ⟨(some 94), .call (.c (.fn 85 [] [])) [(.t 91), (.t 93)], none⟩,
  ⟨(some 95), .mov (.t 94), none⟩,
  ⟨(some 96), .mov (.t 5), some (95, false)⟩,
  ⟨(some 97), .load (some 3) (.t 12), some (95, false)⟩,
  ⟨(some 98), .call (.c (.fn 87 [] [])) [(.t 97)], some (95, false)⟩,
  ⟨(some 99), .call (.c (.fn 86 [] [])) [(.t 96), (.t 98)], some (95, false)⟩,
  ⟨(some 100), .pick (.t 95) (.c (.bool true)) (.t 99), none⟩] none)
 (.cond (.t 100) (.seq (.region [⟨(some 101), .mov (.t 4), none⟩,
  ⟨(some 102), .un .not (.t 101), none⟩,
  ⟨(some 103), .call (.c (.fn 84 [] [])) [(.t 102)], none⟩,
  ⟨none, .store 3 (.t 2) (.t 103), none⟩] none)
 (.ret))
 (.skip)))))
 (.region [⟨(some 104), .bin .add (.t 87) (.c (.int .i64 1)), none⟩,
  ⟨(some 87), .mov (.t 104), none⟩] none)))
-- pneumatic/boolexp.merged
def ic58 : IC := .seq (.region [⟨(some 1), .box (.t 0), none⟩,
  ⟨(some 2), .alloc [.int .i64 0, .int .i64 0, .nils], none⟩] none)
 (.seq (.seq (.region [⟨(some 13), .faddr 0 (.t 1), none⟩,
  ⟨(some 14), .load none (.t 13), none⟩,
  ⟨(some 15), .bin .eql (.t 14) (.c (.int .i64 2)), none⟩] none)
 (.cond (.t 15) (.seq (.seq (.region [⟨(some 16), .faddr 2 (.t 1), none⟩,
  ⟨(some 17), .load none (.t 16), none⟩,
  ⟨(some 18), .idxs 3 (.t 17) (.c (.int .i64 0)), none⟩,
  ⟨(some 19), .load (some 3) (.t 18), none⟩,
  ⟨(some 3), .alloc [.int .i64 0, .int .i64 0, .nils], none⟩,
  ⟨none, .store 3 (.t 3) (.t 19), none⟩] none)
 (.seq (.region [⟨(some 20), .faddr 0 (.t 3), none⟩,
  ⟨(some 21), .load none (.t 20), none⟩] none)
 (.block 0 (.seq (.region [⟨(some 23), .bin .eql (.t 21) (.c (.int .i64 0)), none⟩,
  ⟨(some 22), .mov (.t 23), none⟩] none)
 (.cond (.t 22) (.seq (.region [⟨(some 24), .faddr 1 (.t 3), none⟩,
  ⟨(some 25), .load none (.t 24), none⟩,
  ⟨(some 26), .bin .eql (.t 25) (.c (.int .i64 0)), none⟩,
  ⟨(some 27), .call (.c (.fn 84 [] [])) [(.t 26)], none⟩,
  ⟨none, .store 3 (.t 2) (.t 27), none⟩] none)
 (.ret))
 (.seq (.region [⟨(some 29), .bin .eql (.t 21) (.c (.int .i64 2)), none⟩,
  ⟨(some 28), .mov (.t 29), none⟩] none)
 (.cond (.t 28) (.seq (.region [⟨(some 30), .faddr 2 (.t 3), none⟩,
  ⟨(some 31), .load none (.t 30), none⟩,
  ⟨(some 32), .idxs 3 (.t 31) (.c (.int .i64 0)), none⟩,
  ⟨(some 33), .load (some 3) (.t 32), none⟩,
  ⟨none, .store 3 (.t 2) (.t 33), none⟩] none)
 (.ret))
 (.skip))))))))
 (.seq (.region [⟨(some 34), .load (some 3) (.t 1), none⟩,
  ⟨none, .store 3 (.t 2) (.t 34), none⟩] none)
 (.ret)))
 (.skip)))
 (.seq (.seq (.region [⟨(some 35), .faddr 0 (.t 1), none⟩,
  ⟨(some 36), .load none (.t 35), none⟩,
  ⟨(some 37), .bin .neq (.t 36) (.c (.int .i64 3)), none⟩,
  ⟨(some 38), .mov (.t 37), none⟩,
  ⟨(some 39), .faddr 0 (.t 1), some (38, true)⟩,
  ⟨(some 40), .load none (.t 39), some (38, true)⟩,
  ⟨(some 41), .bin .neq (.t 40) (.c (.int .i64 4)), some (38, true)⟩,
  ⟨(some 42), .pick (.t 38) (.t 41) (.c (.bool false)), none⟩] none)
 (.cond (.t 42) (.seq (.region [⟨(some 43), .load (some 3) (.t 1), none⟩,
  ⟨none, .store 3 (.t 2) (.t 43), none⟩] none)
 (.ret))
 (.skip)))
 (.seq (.region [⟨(some 44), .faddr 0 (.t 1), none⟩,
  ⟨(some 45), .load none (.t 44), none⟩,
  ⟨(some 46), .bin .eql (.t 45) (.c (.int .i64 3)), none⟩,
  ⟨(some 4), .mov (.t 46), none⟩] none)
 (.seq (.region [⟨(some 5), .mov (.c (.nils)), none⟩] none)
 (.seq (.seq (.region [⟨(some 47), .faddr 2 (.t 1), none⟩,
  ⟨(some 48), .load none (.t 47), none⟩,
  ⟨(some 49), .len false (.t 48), none⟩,
  ⟨(some 50), .mov (.c (.int .i64 0)), none⟩] none)
 (.block 1 (.loop b58_1)))
 (.seq (.seq (.region [⟨(some 85), .mov (.t 5), none⟩,
  ⟨(some 86), .len false (.t 85), none⟩,
  ⟨(some 87), .mov (.c (.int .i64 0)), none⟩] none)
 (.block 5 (.loop b58_5)))
 (.seq (.seq (.region [⟨(some 105), .mov (.t 5), none⟩,
  ⟨(some 106), .len false (.t 105), none⟩] none)
 (.block 7 (.seq (.region [⟨(some 108), .bin .eql (.t 106) (.c (.int .i64 0)), none⟩,
  ⟨(some 107), .mov (.t 108), none⟩] none)
 (.cond (.t 107) (.seq (.region [⟨(some 109), .mov (.t 4), none⟩,
  ⟨(some 110), .call (.c (.fn 84 [] [])) [(.t 109)], none⟩,
  ⟨none, .store 3 (.t 2) (.t 110), none⟩] none)
 (.ret))
 (.seq (.region [⟨(some 112), .bin .eql (.t 106) (.c (.int .i64 1)), none⟩,
  ⟨(some 111), .mov (.t 112), none⟩] none)
 (.cond (.t 111) (.seq (.region [⟨(some 113), .mov (.t 5), none⟩,
  ⟨(some 114), .idxs 3 (.t 113) (.c (.int .i64 0)), none⟩,
  ⟨(some 115), .load (some 3) (.t 114), none⟩,
  ⟨none, .store 3 (.t 2) (.t 115), none⟩] none)
 (.ret))
 (.skip)))))))
 (.seq (.region [⟨(some 116), .faddr 0 (.t 1), none⟩,
  ⟨(some 117), .load none (.t 116), none⟩,
  ⟨(some 118), .mov (.t 5), none⟩,
  ⟨(some 119), .build [.int .i64 0, .int .i64 0, .nils] [(0, 1, (.t 117)), (2, 1, (.t 118))], none⟩,
  ⟨none, .store 3 (.t 2) (.t 119), none⟩] none)
 (.ret)))))))))
theorem fn58 : env0.fn 58 = some ⟨120, ic58, [.cell 2 (some 3)]⟩ := by kernel_rfl
theorem zhi (ix : Int) (y : Ex) : zd4 (.nd 2 ix [y]) = zp7 ix y := by
 rw [zd4, if_pos rfl]
theorem zdn {op : Int} (ix : Int) (args : List Ex) (h2 : op ≠ 2) (h3 : op ≠ 3) (h4 : op ≠ 4) : zd4 (.nd op ix args) = .nd op ix args := by
 show (if op = 2 then _ else if op = 3 ∨ op = 4 then _ else _) = _
 rw [if_neg h2, if_neg (by rintro (h | h); exact h3 h; exact h4 h)]
theorem zdm {op : Int} (ix : Int) (args : List Ex) (h : op = 3 ∨ op = 4) : zd4 (.nd op ix args) = zk1 op (op == 3) (zdv op (op == 3) [] args) := by
 show (if op = 2 then _ else if op = 3 ∨ op = 4 then _ else _) = _
 rw [if_neg (by omega), if_pos h]
set_option maxHeartbeats 4000000 in
theorem zv7 (ix : Int) (y : Ex) (hy : opX y = 2 → ∃ z r, zrm y = z :: r) : PF Try.prog 58 [.agg (cX (.nd 2 ix [y]))] (.agg (cX (zp7 ix y))) := by
 have hg0 : (cXs [y])[((0 : Int)).toNat]? = some (cX y) := rfl
 have hn : zp7 ix y = if opX y = 0 then zk3 (ixX y == 0) else if opX y = 2 then (zrm y).headD y else .nd 2 ix [y] := rfl
 generalize zp7 ix y = R at *
 obtain ⟨yo, yi, ya⟩ := y
 replace hn : R = if yo = 0 then zk3 (yi == 0) else if yo = 2 then ya.headD (.nd yo yi ya) else .nd 2 ix [.nd yo yi ya] := hn
 replace hy : yo = 2 → ∃ z r, ya = z :: r := hy
 refine zbv env0_ok fn58 [(0, .agg (cX (.nd 2 ix [.nd yo yi ya])))] (by show 1 ≤ 120; decide) rfl fun w0 N0 => ?_
 unfold ic58
 refine zar (za1 rfl (zbd rfl rfl (zaq (zak (zal ?_)))))
 refine zct [(some (1, 1), [.int .i64 0, .int .i64 0, .nils])] [(0, 0, cX (.nd 2 ix [.nd yo yi ya]))] [(1, .vptr (cX (.nd 2 ix [.nd yo yi ya]))), (2, .mptr 0 0 0)] rfl (.cons rfl rfl .nil) (.cons rfl (.cons (.same rfl) (.cons (.same rfl) (.cons (.same rfl) .nil))) .nil) (.cons rfl (.fptr rfl rfl) (.cons rfl (.mptr rfl) .nil)) ?_
 repeat (first | refine zar ?_ | refine za1 rfl ?_ | refine zak ?_ | refine zal ?_ | refine zbe ?_ | refine zan ?_ | refine zaw ?_ | refine zbj rfl ?_ | refine zbk rfl ?_ | refine zb2 ?_ | refine zb0 ?_ | refine zb1 ?_ | refine za4 ?_ | refine za2 rfl ?_ | refine za3 ?_ | refine za5 ?_ | refine zbn rfl ?_ | refine zbq rfl rfl ?_ | refine zbu rfl ?_ | refine zao rfl ?_ | refine zav rfl rfl ?_ | refine zap rfl rfl rfl rfl ?_ | refine zam rfl rfl rfl rfl rfl rfl rfl ?_ | refine za7 rfl ?_ | refine zae rfl rfl rfl ?_ | refine za0 rfl rfl rfl ?_ | refine zab rfl rfl rfl rfl ?_ | refine zaq ?_ | refine zaj rfl rfl ?_ | refine zac rfl rfl ?_ | refine zbs rfl rfl ?_ | refine zbf rfl rfl ?_ | refine zay rfl rfl ?_ | refine zad rfl rfl ?_ | refine zbd rfl rfl ?_ | refine zaa rfl rfl rfl ?_ | refine zau rfl rfl ?_ | refine zah rfl rfl rfl rfl ?_ | refine za8 rfl rfl rfl rfl ?_ | refine zag rfl rfl rfl rfl ?_ | refine zb8 rfl rfl ?_ | refine zb5 rfl rfl ?_ | refine za9 rfl rfl ?_ | refine zb9 ?_ | refine zai env0_ok rfl rfl rfl ?_ | refine zas (op := .add) rfl rfl rfl ?_ | refine zas (op := .sub) rfl rfl rfl ?_ | refine zb7 rfl rfl rfl ?_ | refine zb6 rfl rfl rfl ?_ | refine zb3 rfl rfl rfl ?_ | refine zaz rfl rfl rfl ?_ | refine zb4 rfl rfl (by omega) (by assumption) rfl ?_ | refine za0 rfl rfl (decide_eq_true ⟨by omega, by omega⟩) ?_ | refine zax rfl rfl (by omega) (by omega) ?_ | refine zaf rfl rfl rfl ?_ | refine zbb rfl ?_ | refine zba rfl ?_)
 refine zbr rfl rfl rfl (fun h => ?_) fun h => ?_
 ·have h : yo = 0 := by simpa using h
  rw [if_pos h] at hn
  subst hn
  repeat (first | refine zar ?_ | refine za1 rfl ?_ | refine zak ?_ | refine zal ?_ | refine zbe ?_ | refine zan ?_ | refine zaw ?_ | refine zbj rfl ?_ | refine zbk rfl ?_ | refine zb2 ?_ | refine zb0 ?_ | refine zb1 ?_ | refine za4 ?_ | refine za2 rfl ?_ | refine za3 ?_ | refine za5 ?_ | refine zbn rfl ?_ | refine zbq rfl rfl ?_ | refine zbu rfl ?_ | refine zao rfl ?_ | refine zav rfl rfl ?_ | refine zap rfl rfl rfl rfl ?_ | refine zam rfl rfl rfl rfl rfl rfl rfl ?_ | refine za7 rfl ?_ | refine zae rfl rfl rfl ?_ | refine za0 rfl rfl rfl ?_ | refine zab rfl rfl rfl rfl ?_ | refine zaq ?_ | refine zaj rfl rfl ?_ | refine zac rfl rfl ?_ | refine zbs rfl rfl ?_ | refine zbf rfl rfl ?_ | refine zay rfl rfl ?_ | refine zad rfl rfl ?_ | refine zbd rfl rfl ?_ | refine zaa rfl rfl rfl ?_ | refine zau rfl rfl ?_ | refine zah rfl rfl rfl rfl ?_ | refine za8 rfl rfl rfl rfl ?_ | refine zag rfl rfl rfl rfl ?_ | refine zb8 rfl rfl ?_ | refine zb5 rfl rfl ?_ | refine za9 rfl rfl ?_ | refine zb9 ?_ | refine zai env0_ok rfl rfl rfl ?_ | refine zas (op := .add) rfl rfl rfl ?_ | refine zas (op := .sub) rfl rfl rfl ?_ | refine zb7 rfl rfl rfl ?_ | refine zb6 rfl rfl rfl ?_ | refine zb3 rfl rfl rfl ?_ | refine zaz rfl rfl rfl ?_ | refine zb4 rfl rfl (by omega) (by assumption) rfl ?_ | refine za0 rfl rfl (decide_eq_true ⟨by omega, by omega⟩) ?_ | refine zax rfl rfl (by omega) (by omega) ?_ | refine zaf rfl rfl rfl ?_ | refine zbb rfl ?_ | refine zba rfl ?_)
  refine zbr rfl rfl rfl (fun h => ?_) fun h => ?_
  ·rw [h]
   refine zbp rfl rfl (zis true) (fun h => Bool.noConfusion (show false = true from h)) ?_
   repeat (first | refine zar ?_ | refine za1 rfl ?_ | refine zak ?_ | refine zal ?_ | refine zbe ?_ | refine zan ?_ | refine zaw ?_ | refine zbj rfl ?_ | refine zbk rfl ?_ | refine zb2 ?_ | refine zb0 ?_ | refine zb1 ?_ | refine za4 ?_ | refine za2 rfl ?_ | refine za3 ?_ | refine za5 ?_ | refine zbn rfl ?_ | refine zbq rfl rfl ?_ | refine zbu rfl ?_ | refine zao rfl ?_ | refine zav rfl rfl ?_ | refine zap rfl rfl rfl rfl ?_ | refine zam rfl rfl rfl rfl rfl rfl rfl ?_ | refine za7 rfl ?_ | refine zae rfl rfl rfl ?_ | refine za0 rfl rfl rfl ?_ | refine zab rfl rfl rfl rfl ?_ | refine zaq ?_ | refine zaj rfl rfl ?_ | refine zac rfl rfl ?_ | refine zbs rfl rfl ?_ | refine zbf rfl rfl ?_ | refine zay rfl rfl ?_ | refine zad rfl rfl ?_ | refine zbd rfl rfl ?_ | refine zaa rfl rfl rfl ?_ | refine zau rfl rfl ?_ | refine zah rfl rfl rfl rfl ?_ | refine za8 rfl rfl rfl rfl ?_ | refine zag rfl rfl rfl rfl ?_ | refine zb8 rfl rfl ?_ | refine zb5 rfl rfl ?_ | refine za9 rfl rfl ?_ | refine zb9 ?_ | refine zai env0_ok rfl rfl rfl ?_ | refine zas (op := .add) rfl rfl rfl ?_ | refine zas (op := .sub) rfl rfl rfl ?_ | refine zb7 rfl rfl rfl ?_ | refine zb6 rfl rfl rfl ?_ | refine zb3 rfl rfl rfl ?_ | refine zaz rfl rfl rfl ?_ | refine zb4 rfl rfl (by omega) (by assumption) rfl ?_ | refine za0 rfl rfl (decide_eq_true ⟨by omega, by omega⟩) ?_ | refine zax rfl rfl (by omega) (by omega) ?_ | refine zaf rfl rfl rfl ?_ | refine zbb rfl ?_ | refine zba rfl ?_)
   exact zbh ⟨.inr rfl, _, rfl, rfl⟩
  ·rw [h]
   refine zbp rfl rfl (zis false) (fun h => Bool.noConfusion (show false = true from h)) ?_
   repeat (first | refine zar ?_ | refine za1 rfl ?_ | refine zak ?_ | refine zal ?_ | refine zbe ?_ | refine zan ?_ | refine zaw ?_ | refine zbj rfl ?_ | refine zbk rfl ?_ | refine zb2 ?_ | refine zb0 ?_ | refine zb1 ?_ | refine za4 ?_ | refine za2 rfl ?_ | refine za3 ?_ | refine za5 ?_ | refine zbn rfl ?_ | refine zbq rfl rfl ?_ | refine zbu rfl ?_ | refine zao rfl ?_ | refine zav rfl rfl ?_ | refine zap rfl rfl rfl rfl ?_ | refine zam rfl rfl rfl rfl rfl rfl rfl ?_ | refine za7 rfl ?_ | refine zae rfl rfl rfl ?_ | refine za0 rfl rfl rfl ?_ | refine zab rfl rfl rfl rfl ?_ | refine zaq ?_ | refine zaj rfl rfl ?_ | refine zac rfl rfl ?_ | refine zbs rfl rfl ?_ | refine zbf rfl rfl ?_ | refine zay rfl rfl ?_ | refine zad rfl rfl ?_ | refine zbd rfl rfl ?_ | refine zaa rfl rfl rfl ?_ | refine zau rfl rfl ?_ | refine zah rfl rfl rfl rfl ?_ | refine za8 rfl rfl rfl rfl ?_ | refine zag rfl rfl rfl rfl ?_ | refine zb8 rfl rfl ?_ | refine zb5 rfl rfl ?_ | refine za9 rfl rfl ?_ | refine zb9 ?_ | refine zai env0_ok rfl rfl rfl ?_ | refine zas (op := .add) rfl rfl rfl ?_ | refine zas (op := .sub) rfl rfl rfl ?_ | refine zb7 rfl rfl rfl ?_ | refine zb6 rfl rfl rfl ?_ | refine zb3 rfl rfl rfl ?_ | refine zaz rfl rfl rfl ?_ | refine zb4 rfl rfl (by omega) (by assumption) rfl ?_ | refine za0 rfl rfl (decide_eq_true ⟨by omega, by omega⟩) ?_ | refine zax rfl rfl (by omega) (by omega) ?_ | refine zaf rfl rfl rfl ?_ | refine zbb rfl ?_ | refine zba rfl ?_)
   exact zbh ⟨.inr rfl, _, rfl, rfl⟩
 ·have h : ¬ yo = 0 := by simpa using h
  rw [if_neg h] at hn
  repeat (first | refine zar ?_ | refine za1 rfl ?_ | refine zak ?_ | refine zal ?_ | refine zbe ?_ | refine zan ?_ | refine zaw ?_ | refine zbj rfl ?_ | refine zbk rfl ?_ | refine zb2 ?_ | refine zb0 ?_ | refine zb1 ?_ | refine za4 ?_ | refine za2 rfl ?_ | refine za3 ?_ | refine za5 ?_ | refine zbn rfl ?_ | refine zbq rfl rfl ?_ | refine zbu rfl ?_ | refine zao rfl ?_ | refine zav rfl rfl ?_ | refine zap rfl rfl rfl rfl ?_ | refine zam rfl rfl rfl rfl rfl rfl rfl ?_ | refine za7 rfl ?_ | refine zae rfl rfl rfl ?_ | refine za0 rfl rfl rfl ?_ | refine zab rfl rfl rfl rfl ?_ | refine zaq ?_ | refine zaj rfl rfl ?_ | refine zac rfl rfl ?_ | refine zbs rfl rfl ?_ | refine zbf rfl rfl ?_ | refine zay rfl rfl ?_ | refine zad rfl rfl ?_ | refine zbd rfl rfl ?_ | refine zaa rfl rfl rfl ?_ | refine zau rfl rfl ?_ | refine zah rfl rfl rfl rfl ?_ | refine za8 rfl rfl rfl rfl ?_ | refine zag rfl rfl rfl rfl ?_ | refine zb8 rfl rfl ?_ | refine zb5 rfl rfl ?_ | refine za9 rfl rfl ?_ | refine zb9 ?_ | refine zai env0_ok rfl rfl rfl ?_ | refine zas (op := .add) rfl rfl rfl ?_ | refine zas (op := .sub) rfl rfl rfl ?_ | refine zb7 rfl rfl rfl ?_ | refine zb6 rfl rfl rfl ?_ | refine zb3 rfl rfl rfl ?_ | refine zaz rfl rfl rfl ?_ | refine zb4 rfl rfl (by omega) (by assumption) rfl ?_ | refine za0 rfl rfl (decide_eq_true ⟨by omega, by omega⟩) ?_ | refine zax rfl rfl (by omega) (by omega) ?_ | refine zaf rfl rfl rfl ?_ | refine zbb rfl ?_ | refine zba rfl ?_)
  refine zbr rfl rfl rfl (fun h => ?_) fun h => ?_
  ·have h : yo = 2 := by simpa using h
   rw [if_pos h] at hn
   obtain ⟨z, r, hz⟩ := hy h
   subst hz
   replace hn : R = z := hn
   subst hn
   have hg1 : (cXs (R :: r))[((0 : Int)).toNat]? = some (cX R) := rfl
   obtain ⟨zo, zi, za⟩ := R
   repeat (first | refine zar ?_ | refine za1 rfl ?_ | refine zak ?_ | refine zal ?_ | refine zbe ?_ | refine zan ?_ | refine zaw ?_ | refine zbj rfl ?_ | refine zbk rfl ?_ | refine zb2 ?_ | refine zb0 ?_ | refine zb1 ?_ | refine za4 ?_ | refine za2 rfl ?_ | refine za3 ?_ | refine za5 ?_ | refine zbn rfl ?_ | refine zbq rfl rfl ?_ | refine zbu rfl ?_ | refine zao rfl ?_ | refine zav rfl rfl ?_ | refine zap rfl rfl rfl rfl ?_ | refine zam rfl rfl rfl rfl rfl rfl rfl ?_ | refine za7 rfl ?_ | refine zae rfl rfl rfl ?_ | refine za0 rfl rfl rfl ?_ | refine zab rfl rfl rfl rfl ?_ | refine zaq ?_ | refine zaj rfl rfl ?_ | refine zac rfl rfl ?_ | refine zbs rfl rfl ?_ | refine zbf rfl rfl ?_ | refine zay rfl rfl ?_ | refine zad rfl rfl ?_ | refine zbd rfl rfl ?_ | refine zaa rfl rfl rfl ?_ | refine zau rfl rfl ?_ | refine zah rfl rfl rfl rfl ?_ | refine za8 rfl rfl rfl rfl ?_ | refine zag rfl rfl rfl rfl ?_ | refine zb8 rfl rfl ?_ | refine zb5 rfl rfl ?_ | refine za9 rfl rfl ?_ | refine zb9 ?_ | refine zai env0_ok rfl rfl rfl ?_ | refine zas (op := .add) rfl rfl rfl ?_ | refine zas (op := .sub) rfl rfl rfl ?_ | refine zb7 rfl rfl rfl ?_ | refine zb6 rfl rfl rfl ?_ | refine zb3 rfl rfl rfl ?_ | refine zaz rfl rfl rfl ?_ | refine zb4 rfl rfl (by omega) (by assumption) rfl ?_ | refine za0 rfl rfl (decide_eq_true ⟨by omega, by omega⟩) ?_ | refine zax rfl rfl (by omega) (by omega) ?_ | refine zaf rfl rfl rfl ?_ | refine zbb rfl ?_ | refine zba rfl ?_)
   exact zbh ⟨.inr rfl, _, rfl, rfl⟩
  ·have h : ¬ yo = 2 := by simpa using h
   rw [if_neg h] at hn
   subst hn
   repeat (first | refine zar ?_ | refine za1 rfl ?_ | refine zak ?_ | refine zal ?_ | refine zbe ?_ | refine zan ?_ | refine zaw ?_ | refine zbj rfl ?_ | refine zbk rfl ?_ | refine zb2 ?_ | refine zb0 ?_ | refine zb1 ?_ | refine za4 ?_ | refine za2 rfl ?_ | refine za3 ?_ | refine za5 ?_ | refine zbn rfl ?_ | refine zbq rfl rfl ?_ | refine zbu rfl ?_ | refine zao rfl ?_ | refine zav rfl rfl ?_ | refine zap rfl rfl rfl rfl ?_ | refine zam rfl rfl rfl rfl rfl rfl rfl ?_ | refine za7 rfl ?_ | refine zae rfl rfl rfl ?_ | refine za0 rfl rfl rfl ?_ | refine zab rfl rfl rfl rfl ?_ | refine zaq ?_ | refine zaj rfl rfl ?_ | refine zac rfl rfl ?_ | refine zbs rfl rfl ?_ | refine zbf rfl rfl ?_ | refine zay rfl rfl ?_ | refine zad rfl rfl ?_ | refine zbd rfl rfl ?_ | refine zaa rfl rfl rfl ?_ | refine zau rfl rfl ?_ | refine zah rfl rfl rfl rfl ?_ | refine za8 rfl rfl rfl rfl ?_ | refine zag rfl rfl rfl rfl ?_ | refine zb8 rfl rfl ?_ | refine zb5 rfl rfl ?_ | refine za9 rfl rfl ?_ | refine zb9 ?_ | refine zai env0_ok rfl rfl rfl ?_ | refine zas (op := .add) rfl rfl rfl ?_ | refine zas (op := .sub) rfl rfl rfl ?_ | refine zb7 rfl rfl rfl ?_ | refine zb6 rfl rfl rfl ?_ | refine zb3 rfl rfl rfl ?_ | refine zaz rfl rfl rfl ?_ | refine zb4 rfl rfl (by omega) (by assumption) rfl ?_ | refine za0 rfl rfl (decide_eq_true ⟨by omega, by omega⟩) ?_ | refine zax rfl rfl (by omega) (by omega) ?_ | refine zaf rfl rfl rfl ?_ | refine zbb rfl ?_ | refine zba rfl ?_)
   exact zbh ⟨.inr rfl, _, rfl, rfl⟩
theorem zv8 {op : Int} (ix : Int) (args : List Ex) (h2 : op ≠ 2) (h3 : op ≠ 3) (h4 : op ≠ 4) : PF Try.prog 58 [.agg (cX (.nd op ix args))] (.agg (cX (.nd op ix args))) := by
 refine zbv env0_ok fn58 [(0, .agg (cX (.nd op ix args)))] (by show 1 ≤ 120; decide) rfl fun w0 N0 => ?_
 unfold ic58
 refine zar (za1 rfl (zbd rfl rfl (zaq (zak (zal ?_)))))
 refine zct [(some (1, 1), [.int .i64 0, .int .i64 0, .nils])] [(0, 0, cX (.nd op ix args))] [(1, .vptr (cX (.nd op ix args))), (2, .mptr 0 0 0)] rfl (.cons rfl rfl .nil) (.cons rfl (.cons (.same rfl) (.cons (.same rfl) (.cons (.same rfl) .nil))) .nil) (.cons rfl (.fptr rfl rfl) (.cons rfl (.mptr rfl) .nil)) ?_
 repeat (first | refine zar ?_ | refine za1 rfl ?_ | refine zak ?_ | refine zal ?_ | refine zbe ?_ | refine zan ?_ | refine zaw ?_ | refine zbj rfl ?_ | refine zbk rfl ?_ | refine zb2 ?_ | refine zb0 ?_ | refine zb1 ?_ | refine za4 ?_ | refine za2 rfl ?_ | refine za3 ?_ | refine za5 ?_ | refine zbn rfl ?_ | refine zbq rfl rfl ?_ | refine zbu rfl ?_ | refine zao rfl ?_ | refine zav rfl rfl ?_ | refine zap rfl rfl rfl rfl ?_ | refine zam rfl rfl rfl rfl rfl rfl rfl ?_ | refine za7 rfl ?_ | refine zae rfl rfl rfl ?_ | refine za0 rfl rfl rfl ?_ | refine zab rfl rfl rfl rfl ?_ | refine zaq ?_ | refine zaj rfl rfl ?_ | refine zac rfl rfl ?_ | refine zbs rfl rfl ?_ | refine zbf rfl rfl ?_ | refine zay rfl rfl ?_ | refine zad rfl rfl ?_ | refine zbd rfl rfl ?_ | refine zaa rfl rfl rfl ?_ | refine zau rfl rfl ?_ | refine zah rfl rfl rfl rfl ?_ | refine za8 rfl rfl rfl rfl ?_ | refine zag rfl rfl rfl rfl ?_ | refine zb8 rfl rfl ?_ | refine zb5 rfl rfl ?_ | refine za9 rfl rfl ?_ | refine zb9 ?_ | refine zai env0_ok rfl rfl rfl ?_ | refine zas (op := .add) rfl rfl rfl ?_ | refine zas (op := .sub) rfl rfl rfl ?_ | refine zb7 rfl rfl rfl ?_ | refine zb6 rfl rfl rfl ?_ | refine zb3 rfl rfl rfl ?_ | refine zaz rfl rfl rfl ?_ | refine zb4 rfl rfl (by omega) (by assumption) rfl ?_ | refine za0 rfl rfl (decide_eq_true ⟨by omega, by omega⟩) ?_ | refine zax rfl rfl (by omega) (by omega) ?_ | refine zaf rfl rfl rfl ?_ | refine zbb rfl ?_ | refine zba rfl ?_)
 refine zbr rfl rfl rfl (fun h => absurd (by simpa using h) h2) fun h => ?_
 repeat (first | refine zar ?_ | refine za1 rfl ?_ | refine zak ?_ | refine zal ?_ | refine zbe ?_ | refine zan ?_ | refine zaw ?_ | refine zbj rfl ?_ | refine zbk rfl ?_ | refine zb2 ?_ | refine zb0 ?_ | refine zb1 ?_ | refine za4 ?_ | refine za2 rfl ?_ | refine za3 ?_ | refine za5 ?_ | refine zbn rfl ?_ | refine zbq rfl rfl ?_ | refine zbu rfl ?_ | refine zao rfl ?_ | refine zav rfl rfl ?_ | refine zap rfl rfl rfl rfl ?_ | refine zam rfl rfl rfl rfl rfl rfl rfl ?_ | refine za7 rfl ?_ | refine zae rfl rfl rfl ?_ | refine za0 rfl rfl rfl ?_ | refine zab rfl rfl rfl rfl ?_ | refine zaq ?_ | refine zaj rfl rfl ?_ | refine zac rfl rfl ?_ | refine zbs rfl rfl ?_ | refine zbf rfl rfl ?_ | refine zay rfl rfl ?_ | refine zad rfl rfl ?_ | refine zbd rfl rfl ?_ | refine zaa rfl rfl rfl ?_ | refine zau rfl rfl ?_ | refine zah rfl rfl rfl rfl ?_ | refine za8 rfl rfl rfl rfl ?_ | refine zag rfl rfl rfl rfl ?_ | refine zb8 rfl rfl ?_ | refine zb5 rfl rfl ?_ | refine za9 rfl rfl ?_ | refine zb9 ?_ | refine zai env0_ok rfl rfl rfl ?_ | refine zas (op := .add) rfl rfl rfl ?_ | refine zas (op := .sub) rfl rfl rfl ?_ | refine zb7 rfl rfl rfl ?_ | refine zb6 rfl rfl rfl ?_ | refine zb3 rfl rfl rfl ?_ | refine zaz rfl rfl rfl ?_ | refine zb4 rfl rfl (by omega) (by assumption) rfl ?_ | refine za0 rfl rfl (decide_eq_true ⟨by omega, by omega⟩) ?_ | refine zax rfl rfl (by omega) (by omega) ?_ | refine zaf rfl rfl rfl ?_ | refine zbb rfl ?_ | refine zba rfl ?_)
 refine zbr rfl rfl rfl (fun h => ?_) fun h => absurd (by simpa using h) h3
 repeat (first | refine zar ?_ | refine za1 rfl ?_ | refine zak ?_ | refine zal ?_ | refine zbe ?_ | refine zan ?_ | refine zaw ?_ | refine zbj rfl ?_ | refine zbk rfl ?_ | refine zb2 ?_ | refine zb0 ?_ | refine zb1 ?_ | refine za4 ?_ | refine za2 rfl ?_ | refine za3 ?_ | refine za5 ?_ | refine zbn rfl ?_ | refine zbq rfl rfl ?_ | refine zbu rfl ?_ | refine zao rfl ?_ | refine zav rfl rfl ?_ | refine zap rfl rfl rfl rfl ?_ | refine zam rfl rfl rfl rfl rfl rfl rfl ?_ | refine za7 rfl ?_ | refine zae rfl rfl rfl ?_ | refine za0 rfl rfl rfl ?_ | refine zab rfl rfl rfl rfl ?_ | refine zaq ?_ | refine zaj rfl rfl ?_ | refine zac rfl rfl ?_ | refine zbs rfl rfl ?_ | refine zbf rfl rfl ?_ | refine zay rfl rfl ?_ | refine zad rfl rfl ?_ | refine zbd rfl rfl ?_ | refine zaa rfl rfl rfl ?_ | refine zau rfl rfl ?_ | refine zah rfl rfl rfl rfl ?_ | refine za8 rfl rfl rfl rfl ?_ | refine zag rfl rfl rfl rfl ?_ | refine zb8 rfl rfl ?_ | refine zb5 rfl rfl ?_ | refine za9 rfl rfl ?_ | refine zb9 ?_ | refine zai env0_ok rfl rfl rfl ?_ | refine zas (op := .add) rfl rfl rfl ?_ | refine zas (op := .sub) rfl rfl rfl ?_ | refine zb7 rfl rfl rfl ?_ | refine zb6 rfl rfl rfl ?_ | refine zb3 rfl rfl rfl ?_ | refine zaz rfl rfl rfl ?_ | refine zb4 rfl rfl (by omega) (by assumption) rfl ?_ | refine za0 rfl rfl (decide_eq_true ⟨by omega, by omega⟩) ?_ | refine zax rfl rfl (by omega) (by omega) ?_ | refine zaf rfl rfl rfl ?_ | refine zbb rfl ?_ | refine zba rfl ?_)
 refine zbr rfl rfl rfl (fun h => ?_) fun h => absurd (by simpa using h) h4
 repeat (first | refine zar ?_ | refine za1 rfl ?_ | refine zak ?_ | refine zal ?_ | refine zbe ?_ | refine zan ?_ | refine zaw ?_ | refine zbj rfl ?_ | refine zbk rfl ?_ | refine zb2 ?_ | refine zb0 ?_ | refine zb1 ?_ | refine za4 ?_ | refine za2 rfl ?_ | refine za3 ?_ | refine za5 ?_ | refine zbn rfl ?_ | refine zbq rfl rfl ?_ | refine zbu rfl ?_ | refine zao rfl ?_ | refine zav rfl rfl ?_ | refine zap rfl rfl rfl rfl ?_ | refine zam rfl rfl rfl rfl rfl rfl rfl ?_ | refine za7 rfl ?_ | refine zae rfl rfl rfl ?_ | refine za0 rfl rfl rfl ?_ | refine zab rfl rfl rfl rfl ?_ | refine zaq ?_ | refine zaj rfl rfl ?_ | refine zac rfl rfl ?_ | refine zbs rfl rfl ?_ | refine zbf rfl rfl ?_ | refine zay rfl rfl ?_ | refine zad rfl rfl ?_ | refine zbd rfl rfl ?_ | refine zaa rfl rfl rfl ?_ | refine zau rfl rfl ?_ | refine zah rfl rfl rfl rfl ?_ | refine za8 rfl rfl rfl rfl ?_ | refine zag rfl rfl rfl rfl ?_ | refine zb8 rfl rfl ?_ | refine zb5 rfl rfl ?_ | refine za9 rfl rfl ?_ | refine zb9 ?_ | refine zai env0_ok rfl rfl rfl ?_ | refine zas (op := .add) rfl rfl rfl ?_ | refine zas (op := .sub) rfl rfl rfl ?_ | refine zb7 rfl rfl rfl ?_ | refine zb6 rfl rfl rfl ?_ | refine zb3 rfl rfl rfl ?_ | refine zaz rfl rfl rfl ?_ | refine zb4 rfl rfl (by omega) (by assumption) rfl ?_ | refine za0 rfl rfl (decide_eq_true ⟨by omega, by omega⟩) ?_ | refine zax rfl rfl (by omega) (by omega) ?_ | refine zaf rfl rfl rfl ?_ | refine zbb rfl ?_ | refine zba rfl ?_)
 exact zbh ⟨.inr rfl, _, rfl, rfl⟩
def tlC : IC → IC
 | .seq _ b => b
 | x => x
abbrev postX (n : Nat) (R : Ex) (e : Exit) (S' : AS) : Prop := (e = Exit.normal ∨ e = Exit.ret) ∧ ∃ v0, S'.leave.res [RA.cell n (some 3)] = some v0 ∧ ({ size := 0, tmps := TM.nil, heap := S'.leave.heap, next := S'.leave.next, clk := S'.leave.clk, marks := [] } : AS).view VD v0 = AV.agg (cX R)
def zih (op ix : Int) (args : List Ex) (ne : Bool) (w : AV) (i : Nat) : List (Nat × AV) := [(1, .vptr (cX (.nd op ix args))), (2, .mptr 0 0 0), (4, .bool ne), (5, w), (48, .vs (cXs args)), (49, .int .i64 ((cXs args).length : Nat)), (50, .int .i64 (i : Nat))]
set_option maxHeartbeats 4000000 in
theorem zuw {w0 : World} {N0 : Nat} {ic : IC} {k : List Fr} {Q : Exit → AS → Prop} {op ix : Int} {args : List Ex} {ne : Bool} {i : Nat} {l P : List Ex} {w : AV} {hp : List (Nat × Nat × AObj)} {nx ck : Nat} {ls : List (Nat × AV)} {rest : Int} (hC : Cq l w hp nx) (hs : szL l + szL P + rest ≤ 255) (h0 : 0 ≤ rest) (hk : KeepA ls ((8, .vs (cXs P)) :: zih op ix args ne w i))
  (fin : ∀ w' hp' nx' ck', Cq (P.foldl (zds ne) l) w' hp' nx' → szL (P.foldl (zds ne) l) + rest ≤ 255 → Zm Try.prog w0 N0 none ic (st 120 (zih op ix args ne w' i) hp' nx' ck') k Q) :
  Zm Try.prog w0 N0 none (.seq (.region [⟨(some 63), .mov (.t 8), none⟩, ⟨(some 64), .len false (.t 63), none⟩, ⟨(some 65), .mov (.c (.int .i64 0)), none⟩] none) (.block 3 (.loop b58_3))) (st 120 ls hp nx ck) (.blk 2 :: .seq ic :: k) Q := by
 refine zpl (zbm hk) ?_
 have hcl := zbi P
 have hpl := zd7 P
 have hln := zc9 l
 have hP255 : P.length ≤ 255 := by omega
 unfold zih at *
 repeat (first | refine zar ?_ | refine za1 rfl ?_ | refine zak ?_ | refine zal ?_ | refine zbe ?_ | refine zan ?_ | refine zaw ?_ | refine zbj rfl ?_ | refine zbk rfl ?_ | refine zb2 ?_ | refine zb0 ?_ | refine zb1 ?_ | refine za4 ?_ | refine za2 rfl ?_ | refine za3 ?_ | refine za5 ?_ | refine zbn rfl ?_ | refine zbq rfl rfl ?_ | refine zbu rfl ?_ | refine zao rfl ?_ | refine zav rfl rfl ?_ | refine zap rfl rfl rfl rfl ?_ | refine zam rfl rfl rfl rfl rfl rfl rfl ?_ | refine za7 rfl ?_ | refine zae rfl rfl rfl ?_ | refine za0 rfl rfl rfl ?_ | refine zab rfl rfl rfl rfl ?_ | refine zaq ?_ | refine zaj rfl rfl ?_ | refine zac rfl rfl ?_ | refine zbs rfl rfl ?_ | refine zbf rfl rfl ?_ | refine zay rfl rfl ?_ | refine zad rfl rfl ?_ | refine zbd rfl rfl ?_ | refine zaa rfl rfl rfl ?_ | refine zau rfl rfl ?_ | refine zah rfl rfl rfl rfl ?_ | refine za8 rfl rfl rfl rfl ?_ | refine zag rfl rfl rfl rfl ?_ | refine zb8 rfl rfl ?_ | refine zb5 rfl rfl ?_ | refine za9 rfl rfl ?_ | refine zb9 ?_ | refine zai env0_ok rfl rfl rfl ?_ | refine zas (op := .add) rfl rfl rfl ?_ | refine zas (op := .sub) rfl rfl rfl ?_ | refine zb7 rfl rfl rfl ?_ | refine zb6 rfl rfl rfl ?_ | refine zb3 rfl rfl rfl ?_ | refine zaz rfl rfl rfl ?_ | refine zb4 rfl rfl (by omega) (by assumption) rfl ?_ | refine za0 rfl rfl (decide_eq_true ⟨by omega, by omega⟩) ?_ | refine zax rfl rfl (by omega) (by omega) ?_ | refine zaf rfl rfl rfl ?_ | refine zbb rfl ?_ | refine zba rfl ?_)
 refine zdu (fun mm S => ∃ j l1 w hp nx ck, mm = P.length - j ∧ j ≤ P.length ∧ Cq l1 w hp nx ∧ (P.drop j).foldl (zds ne) l1 = P.foldl (zds ne) l ∧ szL l1 + szL (P.drop j) + rest ≤ 255 ∧
   S = st 120 [(1, .vptr (cX (.nd op ix args))), (2, .mptr 0 0 0), (4, .bool ne), (5, w), (48, .vs (cXs args)), (49, .int .i64 ((cXs args).length : Nat)), (50, .int .i64 (i : Nat)), (63, .vs (cXs P)), (64, .int .i64 ((cXs P).length : Nat)), (65, .int .i64 (j : Nat))] hp nx ck) P.length
  (zbm (.cons rfl (.cons rfl (.cons rfl (.cons rfl (.cons rfl (.cons rfl (.cons rfl (.cons rfl (.cons rfl (.cons rfl .nil))))))))))) ⟨0, l, w, _, _, _, rfl, Nat.zero_le _, hC, rfl, by rw [List.drop_zero]; exact hs, rfl⟩ ?_
 clear hC hs hk
 rintro mm S ⟨j, l1, w, hp, nx, ck, rfl, hj, hC, hg, hs, rfl⟩
 unfold b58_3
 have hl1 := zd7 l1
 have hn1 := zc9 (P.drop j)
 repeat (first | refine zar ?_ | refine za1 rfl ?_ | refine zak ?_ | refine zal ?_ | refine zbe ?_ | refine zan ?_ | refine zaw ?_ | refine zbj rfl ?_ | refine zbk rfl ?_ | refine zb2 ?_ | refine zb0 ?_ | refine zb1 ?_ | refine za4 ?_ | refine za2 rfl ?_ | refine za3 ?_ | refine za5 ?_ | refine zbn rfl ?_ | refine zbq rfl rfl ?_ | refine zbu rfl ?_ | refine zao rfl ?_ | refine zav rfl rfl ?_ | refine zap rfl rfl rfl rfl ?_ | refine zam rfl rfl rfl rfl rfl rfl rfl ?_ | refine za7 rfl ?_ | refine zae rfl rfl rfl ?_ | refine za0 rfl rfl rfl ?_ | refine zab rfl rfl rfl rfl ?_ | refine zaq ?_ | refine zaj rfl rfl ?_ | refine zac rfl rfl ?_ | refine zbs rfl rfl ?_ | refine zbf rfl rfl ?_ | refine zay rfl rfl ?_ | refine zad rfl rfl ?_ | refine zbd rfl rfl ?_ | refine zaa rfl rfl rfl ?_ | refine zau rfl rfl ?_ | refine zah rfl rfl rfl rfl ?_ | refine za8 rfl rfl rfl rfl ?_ | refine zag rfl rfl rfl rfl ?_ | refine zb8 rfl rfl ?_ | refine zb5 rfl rfl ?_ | refine za9 rfl rfl ?_ | refine zb9 ?_ | refine zai env0_ok rfl rfl rfl ?_ | refine zas (op := .add) rfl rfl rfl ?_ | refine zas (op := .sub) rfl rfl rfl ?_ | refine zb7 rfl rfl rfl ?_ | refine zb6 rfl rfl rfl ?_ | refine zb3 rfl rfl rfl ?_ | refine zaz rfl rfl rfl ?_ | refine zb4 rfl rfl (by omega) (by assumption) rfl ?_ | refine za0 rfl rfl (decide_eq_true ⟨by omega, by omega⟩) ?_ | refine zax rfl rfl (by omega) (by omega) ?_ | refine zaf rfl rfl rfl ?_ | refine zbb rfl ?_ | refine zba rfl ?_)
 refine zbr rfl rfl rfl (fun h3 => ?_) fun h3 => ?_
 ·have hlt : j < P.length := by
   have h4 : ((j : Nat) : Int) < (((cXs P).length : Nat) : Int) := of_decide_eq_true h3
   omega
  have w1 : IntKind.wrap .i64 (((j : Nat) : Int) + 1) = ((j + 1 : Nat) : Int) := zc2 j (by omega)
  have hge := zdb hlt
  rw [zrb hlt] at hs hn1
  rw [List.drop_eq_getElem_cons hlt] at hg
  have hn2 := zc9 (P.drop (j + 1))
  generalize P[j] = y at *
  replace hg : (P.drop (j + 1)).foldl (zds ne) (zds ne l1 y) = P.foldl (zds ne) l := hg
  have p85 := is85 y ne
  have p86 := zt1 l1 y (by omega) (by omega)
  have hpu : zds ne l1 y = if (!isX y ne && !l1.any (eqX y)) = true then l1 ++ [y] else l1 := rfl
  generalize zds ne l1 y = l2 at *
  generalize isX y ne = b1 at *
  generalize l1.any (eqX y) = b2 at *
  have hsy : szL (l1 ++ [y]) = szL l1 + szX y := by rw [zmf, szL, szL]; omega
  have hpy := zdq y
  generalize szX y = sy at *
  obtain ⟨yo, yi, ya⟩ := y
  repeat (first | refine zar ?_ | refine za1 rfl ?_ | refine zak ?_ | refine zal ?_ | refine zbe ?_ | refine zan ?_ | refine zaw ?_ | refine zbj rfl ?_ | refine zbk rfl ?_ | refine zb2 ?_ | refine zb0 ?_ | refine zb1 ?_ | refine za4 ?_ | refine za2 rfl ?_ | refine za3 ?_ | refine za5 ?_ | refine zbn rfl ?_ | refine zbq rfl rfl ?_ | refine zbu rfl ?_ | refine zao rfl ?_ | refine zav rfl rfl ?_ | refine zap rfl rfl rfl rfl ?_ | refine zam rfl rfl rfl rfl rfl rfl rfl ?_ | refine za7 rfl ?_ | refine zae rfl rfl rfl ?_ | refine za0 rfl rfl rfl ?_ | refine zab rfl rfl rfl rfl ?_ | refine zaq ?_ | refine zaj rfl rfl ?_ | refine zac rfl rfl ?_ | refine zbs rfl rfl ?_ | refine zbf rfl rfl ?_ | refine zay rfl rfl ?_ | refine zad rfl rfl ?_ | refine zbd rfl rfl ?_ | refine zaa rfl rfl rfl ?_ | refine zau rfl rfl ?_ | refine zah rfl rfl rfl rfl ?_ | refine za8 rfl rfl rfl rfl ?_ | refine zag rfl rfl rfl rfl ?_ | refine zb8 rfl rfl ?_ | refine zb5 rfl rfl ?_ | refine za9 rfl rfl ?_ | refine zb9 ?_ | refine zai env0_ok rfl rfl rfl ?_ | refine zas (op := .add) rfl rfl rfl ?_ | refine zas (op := .sub) rfl rfl rfl ?_ | refine zb7 rfl rfl rfl ?_ | refine zb6 rfl rfl rfl ?_ | refine zb3 rfl rfl rfl ?_ | refine zaz rfl rfl rfl ?_ | refine zb4 rfl rfl (by omega) (by assumption) rfl ?_ | refine za0 rfl rfl (decide_eq_true ⟨by omega, by omega⟩) ?_ | refine zax rfl rfl (by omega) (by omega) ?_ | refine zaf rfl rfl rfl ?_ | refine zbb rfl ?_ | refine zba rfl ?_)
  refine zam (id := nx) (sp := ck) (off := 0) rfl rfl rfl rfl zbz rfl rfl ?_
  refine zak (zal ?_)
  refine zml nx ck (cs := cX (.nd yo yi ya)) (l' := [(1, .vptr (cX (.nd op ix args))), (2, .mptr 0 0 0), (4, .bool ne), (5, w), (48, .vs (cXs args)), (49, .int .i64 ((cXs args).length : Nat)), (50, .int .i64 (i : Nat)), (63, .vs (cXs P)), (64, .int .i64 ((cXs P).length : Nat)), (65, .int .i64 (j : Nat)), (10, .vptr (cX (.nd yo yi ya)))]) (by rw [za6, if_pos rfl]; rfl) rfl (.cons rfl .same (.cons rfl .same (.cons rfl .same (.cons rfl .same (.cons rfl .same (.cons rfl .same (.cons rfl .same (.cons rfl .same (.cons rfl .same (.cons rfl .same (.cons rfl (.fptr rfl) .nil))))))))))) ?_
  have hC2 := hC.box ck (.cells [.int .i64 0, .int .i64 0, .nils]) (ck, .cells (setAt 0 [.int .i64 0, .int .i64 0, .nils] (List.take 3 (cX (.nd yo yi ya)))))
  generalize zca nx (zcc nx (ck, AObj.cells (setAt 0 [.int .i64 0, .int .i64 0, .nils] (List.take 3 (cX (.nd yo yi ya))))) ((nx, ck, AObj.cells [.int .i64 0, .int .i64 0, .nils]) :: hp)) = hp2 at *
  repeat (first | refine zar ?_ | refine za1 rfl ?_ | refine zak ?_ | refine zal ?_ | refine zbe ?_ | refine zan ?_ | refine zaw ?_ | refine zbj rfl ?_ | refine zbk rfl ?_ | refine zb2 ?_ | refine zb0 ?_ | refine zb1 ?_ | refine za4 ?_ | refine za2 rfl ?_ | refine za3 ?_ | refine za5 ?_ | refine zbn rfl ?_ | refine zbq rfl rfl ?_ | refine zbu rfl ?_ | refine zao rfl ?_ | refine zav rfl rfl ?_ | refine zap rfl rfl rfl rfl ?_ | refine zam rfl rfl rfl rfl rfl rfl rfl ?_ | refine za7 rfl ?_ | refine zae rfl rfl rfl ?_ | refine za0 rfl rfl rfl ?_ | refine zab rfl rfl rfl rfl ?_ | refine zaq ?_ | refine zaj rfl rfl ?_ | refine zac rfl rfl ?_ | refine zbs rfl rfl ?_ | refine zbf rfl rfl ?_ | refine zay rfl rfl ?_ | refine zad rfl rfl ?_ | refine zbd rfl rfl ?_ | refine zaa rfl rfl rfl ?_ | refine zau rfl rfl ?_ | refine zah rfl rfl rfl rfl ?_ | refine za8 rfl rfl rfl rfl ?_ | refine zag rfl rfl rfl rfl ?_ | refine zb8 rfl rfl ?_ | refine zb5 rfl rfl ?_ | refine za9 rfl rfl ?_ | refine zb9 ?_ | refine zai env0_ok rfl rfl rfl ?_ | refine zas (op := .add) rfl rfl rfl ?_ | refine zas (op := .sub) rfl rfl rfl ?_ | refine zb7 rfl rfl rfl ?_ | refine zb6 rfl rfl rfl ?_ | refine zb3 rfl rfl rfl ?_ | refine zaz rfl rfl rfl ?_ | refine zb4 rfl rfl (by omega) (by assumption) rfl ?_ | refine za0 rfl rfl (decide_eq_true ⟨by omega, by omega⟩) ?_ | refine zax rfl rfl (by omega) (by omega) ?_ | refine zaf rfl rfl rfl ?_ | refine zbb rfl ?_ | refine zba rfl ?_)
  refine zbp rfl rfl p85 (fun h => Bool.noConfusion (show false = true from h)) ?_
  cases b1 with
  | true =>
   have e : l2 = l1 := hpu
   subst e
   repeat (first | refine zar ?_ | refine za1 rfl ?_ | refine zak ?_ | refine zal ?_ | refine zbe ?_ | refine zan ?_ | refine zaw ?_ | refine zbj rfl ?_ | refine zbk rfl ?_ | refine zb2 ?_ | refine zb0 ?_ | refine zb1 ?_ | refine za4 ?_ | refine za2 rfl ?_ | refine za3 ?_ | refine za5 ?_ | refine zbn rfl ?_ | refine zbq rfl rfl ?_ | refine zbu rfl ?_ | refine zao rfl ?_ | refine zav rfl rfl ?_ | refine zap rfl rfl rfl rfl ?_ | refine zam rfl rfl rfl rfl rfl rfl rfl ?_ | refine za7 rfl ?_ | refine zae rfl rfl rfl ?_ | refine za0 rfl rfl rfl ?_ | refine zab rfl rfl rfl rfl ?_ | refine zaq ?_ | refine zaj rfl rfl ?_ | refine zac rfl rfl ?_ | refine zbs rfl rfl ?_ | refine zbf rfl rfl ?_ | refine zay rfl rfl ?_ | refine zad rfl rfl ?_ | refine zbd rfl rfl ?_ | refine zaa rfl rfl rfl ?_ | refine zau rfl rfl ?_ | refine zah rfl rfl rfl rfl ?_ | refine za8 rfl rfl rfl rfl ?_ | refine zag rfl rfl rfl rfl ?_ | refine zb8 rfl rfl ?_ | refine zb5 rfl rfl ?_ | refine za9 rfl rfl ?_ | refine zb9 ?_ | refine zai env0_ok rfl rfl rfl ?_ | refine zas (op := .add) rfl rfl rfl ?_ | refine zas (op := .sub) rfl rfl rfl ?_ | refine zb7 rfl rfl rfl ?_ | refine zb6 rfl rfl rfl ?_ | refine zb3 rfl rfl rfl ?_ | refine zaz rfl rfl rfl ?_ | refine zb4 rfl rfl (by omega) (by assumption) rfl ?_ | refine za0 rfl rfl (decide_eq_true ⟨by omega, by omega⟩) ?_ | refine zax rfl rfl (by omega) (by omega) ?_ | refine zaf rfl rfl rfl ?_ | refine zbb rfl ?_ | refine zba rfl ?_)
   rw [w1]
   exact zcg (show P.length - (j + 1) < P.length - j by omega) (zbm (.cons rfl (.cons rfl (.cons rfl (.cons rfl (.cons rfl (.cons rfl (.cons rfl (.cons rfl (.cons rfl (.cons rfl .nil))))))))))) ⟨j + 1, _, w, _, _, _, rfl, hlt, hC2, hg, by omega, rfl⟩
  | false =>
   repeat (first | refine zar ?_ | refine za1 rfl ?_ | refine zak ?_ | refine zal ?_ | refine zbe ?_ | refine zan ?_ | refine zaw ?_ | refine zbj rfl ?_ | refine zbk rfl ?_ | refine zb2 ?_ | refine zb0 ?_ | refine zb1 ?_ | refine za4 ?_ | refine za2 rfl ?_ | refine za3 ?_ | refine za5 ?_ | refine zbn rfl ?_ | refine zbq rfl rfl ?_ | refine zbu rfl ?_ | refine zao rfl ?_ | refine zav rfl rfl ?_ | refine zap rfl rfl rfl rfl ?_ | refine zam rfl rfl rfl rfl rfl rfl rfl ?_ | refine za7 rfl ?_ | refine zae rfl rfl rfl ?_ | refine za0 rfl rfl rfl ?_ | refine zab rfl rfl rfl rfl ?_ | refine zaq ?_ | refine zaj rfl rfl ?_ | refine zac rfl rfl ?_ | refine zbs rfl rfl ?_ | refine zbf rfl rfl ?_ | refine zay rfl rfl ?_ | refine zad rfl rfl ?_ | refine zbd rfl rfl ?_ | refine zaa rfl rfl rfl ?_ | refine zau rfl rfl ?_ | refine zah rfl rfl rfl rfl ?_ | refine za8 rfl rfl rfl rfl ?_ | refine zag rfl rfl rfl rfl ?_ | refine zb8 rfl rfl ?_ | refine zb5 rfl rfl ?_ | refine za9 rfl rfl ?_ | refine zb9 ?_ | refine zai env0_ok rfl rfl rfl ?_ | refine zas (op := .add) rfl rfl rfl ?_ | refine zas (op := .sub) rfl rfl rfl ?_ | refine zb7 rfl rfl rfl ?_ | refine zb6 rfl rfl rfl ?_ | refine zb3 rfl rfl rfl ?_ | refine zaz rfl rfl rfl ?_ | refine zb4 rfl rfl (by omega) (by assumption) rfl ?_ | refine za0 rfl rfl (decide_eq_true ⟨by omega, by omega⟩) ?_ | refine zax rfl rfl (by omega) (by omega) ?_ | refine zaf rfl rfl rfl ?_ | refine zbb rfl ?_ | refine zba rfl ?_)
   refine zbp rfl (zjl (hC2.lst.view (d := 7)) rfl) p86 (fun _ => rfl) ?_
   cases b2 with
   | true =>
    have e : l2 = l1 := hpu
    subst e
    repeat (first | refine zar ?_ | refine za1 rfl ?_ | refine zak ?_ | refine zal ?_ | refine zbe ?_ | refine zan ?_ | refine zaw ?_ | refine zbj rfl ?_ | refine zbk rfl ?_ | refine zb2 ?_ | refine zb0 ?_ | refine zb1 ?_ | refine za4 ?_ | refine za2 rfl ?_ | refine za3 ?_ | refine za5 ?_ | refine zbn rfl ?_ | refine zbq rfl rfl ?_ | refine zbu rfl ?_ | refine zao rfl ?_ | refine zav rfl rfl ?_ | refine zap rfl rfl rfl rfl ?_ | refine zam rfl rfl rfl rfl rfl rfl rfl ?_ | refine za7 rfl ?_ | refine zae rfl rfl rfl ?_ | refine za0 rfl rfl rfl ?_ | refine zab rfl rfl rfl rfl ?_ | refine zaq ?_ | refine zaj rfl rfl ?_ | refine zac rfl rfl ?_ | refine zbs rfl rfl ?_ | refine zbf rfl rfl ?_ | refine zay rfl rfl ?_ | refine zad rfl rfl ?_ | refine zbd rfl rfl ?_ | refine zaa rfl rfl rfl ?_ | refine zau rfl rfl ?_ | refine zah rfl rfl rfl rfl ?_ | refine za8 rfl rfl rfl rfl ?_ | refine zag rfl rfl rfl rfl ?_ | refine zb8 rfl rfl ?_ | refine zb5 rfl rfl ?_ | refine za9 rfl rfl ?_ | refine zb9 ?_ | refine zai env0_ok rfl rfl rfl ?_ | refine zas (op := .add) rfl rfl rfl ?_ | refine zas (op := .sub) rfl rfl rfl ?_ | refine zb7 rfl rfl rfl ?_ | refine zb6 rfl rfl rfl ?_ | refine zb3 rfl rfl rfl ?_ | refine zaz rfl rfl rfl ?_ | refine zb4 rfl rfl (by omega) (by assumption) rfl ?_ | refine za0 rfl rfl (decide_eq_true ⟨by omega, by omega⟩) ?_ | refine zax rfl rfl (by omega) (by omega) ?_ | refine zaf rfl rfl rfl ?_ | refine zbb rfl ?_ | refine zba rfl ?_)
    rw [w1]
    exact zcg (show P.length - (j + 1) < P.length - j by omega) (zbm (.cons rfl (.cons rfl (.cons rfl (.cons rfl (.cons rfl (.cons rfl (.cons rfl (.cons rfl (.cons rfl (.cons rfl .nil))))))))))) ⟨j + 1, _, w, _, _, _, rfl, hlt, hC2, hg, by omega, rfl⟩
   | false =>
    have e : l2 = l1 ++ [.nd yo yi ya] := hpu
    subst e
    repeat (first | refine zar ?_ | refine za1 rfl ?_ | refine zak ?_ | refine zal ?_ | refine zbe ?_ | refine zan ?_ | refine zaw ?_ | refine zbj rfl ?_ | refine zbk rfl ?_ | refine zb2 ?_ | refine zb0 ?_ | refine zb1 ?_ | refine za4 ?_ | refine za2 rfl ?_ | refine za3 ?_ | refine za5 ?_ | refine zbn rfl ?_ | refine zbq rfl rfl ?_ | refine zbu rfl ?_ | refine zao rfl ?_ | refine zav rfl rfl ?_ | refine zap rfl rfl rfl rfl ?_ | refine zam rfl rfl rfl rfl rfl rfl rfl ?_ | refine za7 rfl ?_ | refine zae rfl rfl rfl ?_ | refine za0 rfl rfl rfl ?_ | refine zab rfl rfl rfl rfl ?_ | refine zaq ?_ | refine zaj rfl rfl ?_ | refine zac rfl rfl ?_ | refine zbs rfl rfl ?_ | refine zbf rfl rfl ?_ | refine zay rfl rfl ?_ | refine zad rfl rfl ?_ | refine zbd rfl rfl ?_ | refine zaa rfl rfl rfl ?_ | refine zau rfl rfl ?_ | refine za8 rfl rfl rfl rfl ?_ | refine zag rfl rfl rfl rfl ?_ | refine zb8 rfl rfl ?_ | refine zb5 rfl rfl ?_ | refine za9 rfl rfl ?_ | refine zb9 ?_ | refine zai env0_ok rfl rfl rfl ?_ | refine zas (op := .add) rfl rfl rfl ?_ | refine zas (op := .sub) rfl rfl rfl ?_ | refine zb7 rfl rfl rfl ?_ | refine zb6 rfl rfl rfl ?_ | refine zb3 rfl rfl rfl ?_ | refine zaz rfl rfl rfl ?_ | refine zb4 rfl rfl (by omega) (by assumption) rfl ?_ | refine za0 rfl rfl (decide_eq_true ⟨by omega, by omega⟩) ?_ | refine zax rfl rfl (by omega) (by omega) ?_ | refine zaf rfl rfl rfl ?_ | refine zbb rfl ?_ | refine zba rfl ?_)
    refine o_xapp (x0 := .nd yo yi ya) (fun _ => rfl) (hC2.fresh _ (.cells (cX (.nd yo yi ya)))).lst (hC2.fresh ck (.cells [])).nx0 (by omega) rfl rfl zbz (by decide) fun w' hp' nx' ck' hG hb hk => ?_
    repeat (first | refine zar ?_ | refine za1 rfl ?_ | refine zak ?_ | refine zal ?_ | refine zbe ?_ | refine zan ?_ | refine zaw ?_ | refine zbj rfl ?_ | refine zbk rfl ?_ | refine zb2 ?_ | refine zb0 ?_ | refine zb1 ?_ | refine za4 ?_ | refine za2 rfl ?_ | refine za3 ?_ | refine za5 ?_ | refine zbn rfl ?_ | refine zbq rfl rfl ?_ | refine zbu rfl ?_ | refine zao rfl ?_ | refine zav rfl rfl ?_ | refine zap rfl rfl rfl rfl ?_ | refine zam rfl rfl rfl rfl rfl rfl rfl ?_ | refine za7 rfl ?_ | refine zae rfl rfl rfl ?_ | refine za0 rfl rfl rfl ?_ | refine zab rfl rfl rfl rfl ?_ | refine zaq ?_ | refine zaj rfl rfl ?_ | refine zac rfl rfl ?_ | refine zbs rfl rfl ?_ | refine zbf rfl rfl ?_ | refine zay rfl rfl ?_ | refine zad rfl rfl ?_ | refine zbd rfl rfl ?_ | refine zaa rfl rfl rfl ?_ | refine zau rfl rfl ?_ | refine zah rfl rfl rfl rfl ?_ | refine za8 rfl rfl rfl rfl ?_ | refine zag rfl rfl rfl rfl ?_ | refine zb8 rfl rfl ?_ | refine zb5 rfl rfl ?_ | refine za9 rfl rfl ?_ | refine zb9 ?_ | refine zai env0_ok rfl rfl rfl ?_ | refine zas (op := .add) rfl rfl rfl ?_ | refine zas (op := .sub) rfl rfl rfl ?_ | refine zb7 rfl rfl rfl ?_ | refine zb6 rfl rfl rfl ?_ | refine zb3 rfl rfl rfl ?_ | refine zaz rfl rfl rfl ?_ | refine zb4 rfl rfl (by omega) (by assumption) rfl ?_ | refine za0 rfl rfl (decide_eq_true ⟨by omega, by omega⟩) ?_ | refine zax rfl rfl (by omega) (by omega) ?_ | refine zaf rfl rfl rfl ?_ | refine zbb rfl ?_ | refine zba rfl ?_)
    rw [w1]
    exact zcg (show P.length - (j + 1) < P.length - j by omega) (zbm (.cons rfl (.cons rfl (.cons rfl (.cons rfl (.cons rfl (.cons rfl (.cons rfl (.cons rfl (.cons rfl (.cons rfl .nil))))))))))) ⟨j + 1, _, w', _, _, _, rfl, hlt, ⟨by rw [hk 0 (by decide)]; exact (hC2.fresh _ _).res, hG, hb⟩, hg, by omega, rfl⟩
 ·have hie : j = P.length := by
   have h4 : ¬ ((j : Nat) : Int) < (((cXs P).length : Nat) : Int) := of_decide_eq_false h3
   omega
  subst hie
  rw [List.drop_length] at hg hs
  rw [szL] at hs
  replace hg : l1 = P.foldl (zds ne) l := hg
  repeat (first | refine zbk rfl ?_ | refine zak ?_ | refine zal ?_ | refine zar ?_ | refine zb2 ?_ | refine za4 ?_)
  subst hg
  exact zev (zb1 (zbe (zal (zpl (zbm (.cons rfl (.cons rfl (.cons rfl (.cons rfl (.cons rfl (.cons rfl (.cons rfl .nil)))))))) (fin _ _ _ _ hC (by omega))))))
set_option maxHeartbeats 4000000 in
theorem rest58 {w0 : World} {N0 : Nat} {op : Int} (ix : Int) (args : List Ex) (ho : op = 3 ∨ op = 4) (hsz : szL args ≤ 255) : Zm Try.prog w0 N0 none (tlC (tlC (tlC ic58))) (st 120 [(1, .vptr (cX (.nd op ix args))), (2, .mptr 0 0 0)] [(0, 0, .cells [.int .i64 0, .int .i64 0, .nils])] 1 1) [] (postX 2 (zk1 op (op == 3) (zdv op (op == 3) [] args))) := by
 have hcl := zbi args
 have hll := zd7 args
 have hne : Am.binOp .eql (.int .i64 op) (.int .i64 3) = some (.bool (op == 3)) := rfl
 generalize (op == 3) = ne at *
 generalize hG : zdv op ne [] args = G
 show Zm _ _ _ _ (.seq _ _) _ _ _
 repeat (first | refine zar ?_ | refine za1 rfl ?_ | refine zak ?_ | refine zal ?_ | refine zbe ?_ | refine zan ?_ | refine zaw ?_ | refine zbj rfl ?_ | refine zbk rfl ?_ | refine zb2 ?_ | refine zb0 ?_ | refine zb1 ?_ | refine za4 ?_ | refine za2 rfl ?_ | refine za3 ?_ | refine za5 ?_ | refine zbn rfl ?_ | refine zbq rfl rfl ?_ | refine zbu rfl ?_ | refine zao rfl ?_ | refine zav rfl rfl ?_ | refine zap rfl rfl rfl rfl ?_ | refine zam rfl rfl rfl rfl rfl rfl rfl ?_ | refine za7 rfl ?_ | refine zae rfl rfl rfl ?_ | refine za0 rfl rfl rfl ?_ | refine zab rfl rfl rfl rfl ?_ | refine zaq ?_ | refine zaj rfl rfl ?_ | refine zac rfl rfl ?_ | refine zbs rfl rfl ?_ | refine zbf rfl rfl ?_ | refine zay rfl rfl ?_ | refine zad rfl rfl ?_ | refine zbd rfl rfl ?_ | refine zaa rfl rfl rfl ?_ | refine zau rfl rfl ?_ | refine zah rfl rfl rfl rfl ?_ | refine za8 rfl rfl rfl rfl ?_ | refine zag rfl rfl rfl rfl ?_ | refine zb8 rfl rfl ?_ | refine zb5 rfl rfl ?_ | refine za9 rfl rfl ?_ | refine zb9 ?_ | refine zai env0_ok rfl rfl rfl ?_ | refine zas (op := .add) rfl rfl rfl ?_ | refine zas (op := .sub) rfl rfl rfl ?_ | refine zb7 rfl rfl rfl ?_ | refine zb6 rfl rfl rfl ?_ | refine zb3 rfl rfl rfl ?_ | refine zaz rfl rfl rfl ?_ | refine zb4 rfl rfl (by omega) (by assumption) rfl ?_ | refine za0 rfl rfl (decide_eq_true ⟨by omega, by omega⟩) ?_ | refine zax rfl rfl (by omega) (by omega) ?_ | refine zaf rfl rfl rfl ?_ | refine zbb rfl ?_ | refine zba rfl ?_)
 refine zas rfl rfl hne ?_
 repeat (first | refine zar ?_ | refine za1 rfl ?_ | refine zak ?_ | refine zal ?_ | refine zbe ?_ | refine zan ?_ | refine zaw ?_ | refine zbj rfl ?_ | refine zbk rfl ?_ | refine zb2 ?_ | refine zb0 ?_ | refine zb1 ?_ | refine za4 ?_ | refine za2 rfl ?_ | refine za3 ?_ | refine za5 ?_ | refine zbn rfl ?_ | refine zbq rfl rfl ?_ | refine zbu rfl ?_ | refine zao rfl ?_ | refine zav rfl rfl ?_ | refine zap rfl rfl rfl rfl ?_ | refine zam rfl rfl rfl rfl rfl rfl rfl ?_ | refine za7 rfl ?_ | refine zae rfl rfl rfl ?_ | refine za0 rfl rfl rfl ?_ | refine zab rfl rfl rfl rfl ?_ | refine zaq ?_ | refine zaj rfl rfl ?_ | refine zac rfl rfl ?_ | refine zbs rfl rfl ?_ | refine zbf rfl rfl ?_ | refine zay rfl rfl ?_ | refine zad rfl rfl ?_ | refine zbd rfl rfl ?_ | refine zaa rfl rfl rfl ?_ | refine zau rfl rfl ?_ | refine zah rfl rfl rfl rfl ?_ | refine za8 rfl rfl rfl rfl ?_ | refine zag rfl rfl rfl rfl ?_ | refine zb8 rfl rfl ?_ | refine zb5 rfl rfl ?_ | refine za9 rfl rfl ?_ | refine zb9 ?_ | refine zai env0_ok rfl rfl rfl ?_ | refine zas (op := .add) rfl rfl rfl ?_ | refine zas (op := .sub) rfl rfl rfl ?_ | refine zb7 rfl rfl rfl ?_ | refine zb6 rfl rfl rfl ?_ | refine zb3 rfl rfl rfl ?_ | refine zaz rfl rfl rfl ?_ | refine zb4 rfl rfl (by omega) (by assumption) rfl ?_ | refine za0 rfl rfl (decide_eq_true ⟨by omega, by omega⟩) ?_ | refine zax rfl rfl (by omega) (by omega) ?_ | refine zaf rfl rfl rfl ?_ | refine zbb rfl ?_ | refine zba rfl ?_)
 refine zdu (fun mm S => ∃ i l w hp nx ck, mm = args.length - i ∧ i ≤ args.length ∧ Cq l w hp nx ∧ zdv op ne l (args.drop i) = G ∧ szL l + szL (args.drop i) ≤ 255 ∧
   S = st 120 [(1, .vptr (cX (.nd op ix args))), (2, .mptr 0 0 0), (4, .bool ne), (5, w), (48, .vs (cXs args)), (49, .int .i64 ((cXs args).length : Nat)), (50, .int .i64 (i : Nat))] hp nx ck) args.length
  (zbm (.cons rfl (.cons rfl (.cons rfl (.cons rfl (.cons rfl (.cons rfl (.cons rfl .nil)))))))) ⟨0, [], .nils, _, _, _, rfl, Nat.zero_le _, ⟨rfl, .inl ⟨rfl, rfl⟩, by decide⟩, hG, (by rw [List.drop_zero, szL]; omega), rfl⟩ ?_
 rintro mm S ⟨i, l, w, hp, nx, ck, rfl, hi, hC, hg, hs, rfl⟩
 unfold b58_1
 repeat (first | refine zar ?_ | refine za1 rfl ?_ | refine zak ?_ | refine zal ?_ | refine zbe ?_ | refine zan ?_ | refine zaw ?_ | refine zbj rfl ?_ | refine zbk rfl ?_ | refine zb2 ?_ | refine zb0 ?_ | refine zb1 ?_ | refine za4 ?_ | refine za2 rfl ?_ | refine za3 ?_ | refine za5 ?_ | refine zbn rfl ?_ | refine zbq rfl rfl ?_ | refine zbu rfl ?_ | refine zao rfl ?_ | refine zav rfl rfl ?_ | refine zap rfl rfl rfl rfl ?_ | refine zam rfl rfl rfl rfl rfl rfl rfl ?_ | refine za7 rfl ?_ | refine zae rfl rfl rfl ?_ | refine za0 rfl rfl rfl ?_ | refine zab rfl rfl rfl rfl ?_ | refine zaq ?_ | refine zaj rfl rfl ?_ | refine zac rfl rfl ?_ | refine zbs rfl rfl ?_ | refine zbf rfl rfl ?_ | refine zay rfl rfl ?_ | refine zad rfl rfl ?_ | refine zbd rfl rfl ?_ | refine zaa rfl rfl rfl ?_ | refine zau rfl rfl ?_ | refine zah rfl rfl rfl rfl ?_ | refine za8 rfl rfl rfl rfl ?_ | refine zag rfl rfl rfl rfl ?_ | refine zb8 rfl rfl ?_ | refine zb5 rfl rfl ?_ | refine za9 rfl rfl ?_ | refine zb9 ?_ | refine zai env0_ok rfl rfl rfl ?_ | refine zas (op := .add) rfl rfl rfl ?_ | refine zas (op := .sub) rfl rfl rfl ?_ | refine zb7 rfl rfl rfl ?_ | refine zb6 rfl rfl rfl ?_ | refine zb3 rfl rfl rfl ?_ | refine zaz rfl rfl rfl ?_ | refine zb4 rfl rfl (by omega) (by assumption) rfl ?_ | refine za0 rfl rfl (decide_eq_true ⟨by omega, by omega⟩) ?_ | refine zax rfl rfl (by omega) (by omega) ?_ | refine zaf rfl rfl rfl ?_ | refine zbb rfl ?_ | refine zba rfl ?_)
 refine zbr rfl rfl rfl (fun h3 => ?_) fun h3 => ?_
 ·have hlt : i < args.length := by
   have h4 : ((i : Nat) : Int) < (((cXs args).length : Nat) : Int) := of_decide_eq_true h3
   omega
  have w1 : IntKind.wrap .i64 (((i : Nat) : Int) + 1) = ((i + 1 : Nat) : Int) := zc2 i (by omega)
  have hge := zdb hlt
  rw [zrb hlt, zph] at hs
  rw [List.drop_eq_getElem_cons hlt] at hg
  replace hg : zdv op ne ((zdt op args[i]).foldl (zds ne) l) (args.drop (i + 1)) = G := hg
  generalize args[i] = y at *
  have hpl : szL (zdt op y) ≤ 1 + szL (zrm y) := by
   unfold zdt
   split
   ·omega
   ·rw [szL, szL, zph]; omega
  generalize hP : zdt op y = P at *
  unfold zdt at hP
  have hr0 := zc9 (args.drop (i + 1))
  generalize hre : szL (args.drop (i + 1)) = rest at *
  obtain ⟨yo, yi, ya⟩ := y
  repeat (first | refine zar ?_ | refine za1 rfl ?_ | refine zak ?_ | refine zal ?_ | refine zbe ?_ | refine zan ?_ | refine zaw ?_ | refine zbj rfl ?_ | refine zbk rfl ?_ | refine zb2 ?_ | refine zb0 ?_ | refine zb1 ?_ | refine za4 ?_ | refine za2 rfl ?_ | refine za3 ?_ | refine za5 ?_ | refine zbn rfl ?_ | refine zbq rfl rfl ?_ | refine zbu rfl ?_ | refine zao rfl ?_ | refine zav rfl rfl ?_ | refine zap rfl rfl rfl rfl ?_ | refine zam rfl rfl rfl rfl rfl rfl rfl ?_ | refine za7 rfl ?_ | refine zae rfl rfl rfl ?_ | refine za0 rfl rfl rfl ?_ | refine zab rfl rfl rfl rfl ?_ | refine zaq ?_ | refine zaj rfl rfl ?_ | refine zac rfl rfl ?_ | refine zbs rfl rfl ?_ | refine zbf rfl rfl ?_ | refine zay rfl rfl ?_ | refine zad rfl rfl ?_ | refine zbd rfl rfl ?_ | refine zaa rfl rfl rfl ?_ | refine zau rfl rfl ?_ | refine zah rfl rfl rfl rfl ?_ | refine za8 rfl rfl rfl rfl ?_ | refine zag rfl rfl rfl rfl ?_ | refine zb8 rfl rfl ?_ | refine zb5 rfl rfl ?_ | refine za9 rfl rfl ?_ | refine zb9 ?_ | refine zai env0_ok rfl rfl rfl ?_ | refine zas (op := .add) rfl rfl rfl ?_ | refine zas (op := .sub) rfl rfl rfl ?_ | refine zb7 rfl rfl rfl ?_ | refine zb6 rfl rfl rfl ?_ | refine zb3 rfl rfl rfl ?_ | refine zaz rfl rfl rfl ?_ | refine zb4 rfl rfl (by omega) (by assumption) rfl ?_ | refine za0 rfl rfl (decide_eq_true ⟨by omega, by omega⟩) ?_ | refine zax rfl rfl (by omega) (by omega) ?_ | refine zaf rfl rfl rfl ?_ | refine zbb rfl ?_ | refine zba rfl ?_)
  refine zam (id := nx) (sp := ck) (off := 0) rfl rfl rfl rfl zbz rfl rfl ?_
  refine zak (zal ?_)
  refine zml nx ck (cs := cX (.nd yo yi ya)) (l' := (7, .vptr (cX (.nd yo yi ya))) :: zih op ix args ne w i) (by rw [za6, if_pos rfl]; rfl) rfl (.cons rfl (.fptr rfl) (.cons rfl .same (.cons rfl .same (.cons rfl .same (.cons rfl .same (.cons rfl .same (.cons rfl .same (.cons rfl .same .nil)))))))) ?_
  have hC2 := hC.box ck (.cells [.int .i64 0, .int .i64 0, .nils]) (ck, .cells (setAt 0 [.int .i64 0, .int .i64 0, .nils] (List.take 3 (cX (.nd yo yi ya)))))
  generalize zca nx (zcc nx (ck, AObj.cells (setAt 0 [.int .i64 0, .int .i64 0, .nils] (List.take 3 (cX (.nd yo yi ya))))) ((nx, ck, AObj.cells [.int .i64 0, .int .i64 0, .nils]) :: hp)) = hp2 at *
  have hs2 : szL l + szL P + rest ≤ 255 := by
   have : zrm (.nd yo yi ya) = ya := rfl
   rw [this] at *
   omega
  repeat (first | refine zar ?_ | refine za1 rfl ?_ | refine zak ?_ | refine zal ?_ | refine zbe ?_ | refine zan ?_ | refine zaw ?_ | refine zbj rfl ?_ | refine zbk rfl ?_ | refine zb2 ?_ | refine zb0 ?_ | refine zb1 ?_ | refine za4 ?_ | refine za2 rfl ?_ | refine za3 ?_ | refine za5 ?_ | refine zbn rfl ?_ | refine zbq rfl rfl ?_ | refine zbu rfl ?_ | refine zao rfl ?_ | refine zav rfl rfl ?_ | refine zap rfl rfl rfl rfl ?_ | refine zam rfl rfl rfl rfl rfl rfl rfl ?_ | refine za7 rfl ?_ | refine zae rfl rfl rfl ?_ | refine za0 rfl rfl rfl ?_ | refine zab rfl rfl rfl rfl ?_ | refine zaq ?_ | refine zaj rfl rfl ?_ | refine zac rfl rfl ?_ | refine zbs rfl rfl ?_ | refine zbf rfl rfl ?_ | refine zay rfl rfl ?_ | refine zad rfl rfl ?_ | refine zbd rfl rfl ?_ | refine zaa rfl rfl rfl ?_ | refine zau rfl rfl ?_ | refine zah rfl rfl rfl rfl ?_ | refine za8 rfl rfl rfl rfl ?_ | refine zag rfl rfl rfl rfl ?_ | refine zb8 rfl rfl ?_ | refine zb5 rfl rfl ?_ | refine za9 rfl rfl ?_ | refine zb9 ?_ | refine zai env0_ok rfl rfl rfl ?_ | refine zas (op := .add) rfl rfl rfl ?_ | refine zas (op := .sub) rfl rfl rfl ?_ | refine zb7 rfl rfl rfl ?_ | refine zb6 rfl rfl rfl ?_ | refine zb3 rfl rfl rfl ?_ | refine zaz rfl rfl rfl ?_ | refine zb4 rfl rfl (by omega) (by assumption) rfl ?_ | refine za0 rfl rfl (decide_eq_true ⟨by omega, by omega⟩) ?_ | refine zax rfl rfl (by omega) (by omega) ?_ | refine zaf rfl rfl rfl ?_ | refine zbb rfl ?_ | refine zba rfl ?_)
  refine zbr rfl rfl rfl (fun h => ?_) fun h => ?_
  ·have h : yo = op := by simpa using h
   have hP : ya = P := by rw [← hP]; exact (if_pos h).symm
   subst hP
   repeat (first | refine za1 rfl ?_ | refine zak ?_ | refine zal ?_ | refine zbe ?_ | refine zan ?_ | refine zaw ?_ | refine zbj rfl ?_ | refine zbk rfl ?_ | refine zb2 ?_ | refine zb0 ?_ | refine zb1 ?_ | refine za4 ?_ | refine za2 rfl ?_ | refine za3 ?_ | refine za5 ?_ | refine zbn rfl ?_ | refine zbq rfl rfl ?_ | refine zbu rfl ?_ | refine zao rfl ?_ | refine zav rfl rfl ?_ | refine zap rfl rfl rfl rfl ?_ | refine zam rfl rfl rfl rfl rfl rfl rfl ?_ | refine za7 rfl ?_ | refine zae rfl rfl rfl ?_ | refine za0 rfl rfl rfl ?_ | refine zab rfl rfl rfl rfl ?_ | refine zaq ?_ | refine zaj rfl rfl ?_ | refine zac rfl rfl ?_ | refine zbs rfl rfl ?_ | refine zbf rfl rfl ?_ | refine zay rfl rfl ?_ | refine zad rfl rfl ?_ | refine zbd rfl rfl ?_ | refine zaa rfl rfl rfl ?_ | refine zau rfl rfl ?_ | refine zah rfl rfl rfl rfl ?_ | refine za8 rfl rfl rfl rfl ?_ | refine zag rfl rfl rfl rfl ?_ | refine zb8 rfl rfl ?_ | refine zb5 rfl rfl ?_ | refine za9 rfl rfl ?_ | refine zb9 ?_ | refine zai env0_ok rfl rfl rfl ?_ | refine zas (op := .add) rfl rfl rfl ?_ | refine zas (op := .sub) rfl rfl rfl ?_ | refine zb7 rfl rfl rfl ?_ | refine zb6 rfl rfl rfl ?_ | refine zb3 rfl rfl rfl ?_ | refine zaz rfl rfl rfl ?_ | refine zb4 rfl rfl (by omega) (by assumption) rfl ?_ | refine za0 rfl rfl (decide_eq_true ⟨by omega, by omega⟩) ?_ | refine zax rfl rfl (by omega) (by omega) ?_ | refine zaf rfl rfl rfl ?_ | refine zbb rfl ?_ | refine zba rfl ?_)
   refine zuw (hC2.fresh _ _) hs2 hr0 (.cons rfl (.cons rfl (.cons rfl (.cons rfl (.cons rfl (.cons rfl (.cons rfl (.cons rfl .nil)))))))) fun w' hp' nx' ck' hC' hs' => ?_
   unfold zih
   repeat (first | refine zar ?_ | refine za1 rfl ?_ | refine zak ?_ | refine zal ?_ | refine zbe ?_ | refine zan ?_ | refine zaw ?_ | refine zbj rfl ?_ | refine zbk rfl ?_ | refine zb2 ?_ | refine zb0 ?_ | refine zb1 ?_ | refine za4 ?_ | refine za2 rfl ?_ | refine za3 ?_ | refine za5 ?_ | refine zbn rfl ?_ | refine zbq rfl rfl ?_ | refine zbu rfl ?_ | refine zao rfl ?_ | refine zav rfl rfl ?_ | refine zap rfl rfl rfl rfl ?_ | refine zam rfl rfl rfl rfl rfl rfl rfl ?_ | refine za7 rfl ?_ | refine zae rfl rfl rfl ?_ | refine za0 rfl rfl rfl ?_ | refine zab rfl rfl rfl rfl ?_ | refine zaq ?_ | refine zaj rfl rfl ?_ | refine zac rfl rfl ?_ | refine zbs rfl rfl ?_ | refine zbf rfl rfl ?_ | refine zay rfl rfl ?_ | refine zad rfl rfl ?_ | refine zbd rfl rfl ?_ | refine zaa rfl rfl rfl ?_ | refine zau rfl rfl ?_ | refine zah rfl rfl rfl rfl ?_ | refine za8 rfl rfl rfl rfl ?_ | refine zag rfl rfl rfl rfl ?_ | refine zb8 rfl rfl ?_ | refine zb5 rfl rfl ?_ | refine za9 rfl rfl ?_ | refine zb9 ?_ | refine zai env0_ok rfl rfl rfl ?_ | refine zas (op := .add) rfl rfl rfl ?_ | refine zas (op := .sub) rfl rfl rfl ?_ | refine zb7 rfl rfl rfl ?_ | refine zb6 rfl rfl rfl ?_ | refine zb3 rfl rfl rfl ?_ | refine zaz rfl rfl rfl ?_ | refine zb4 rfl rfl (by omega) (by assumption) rfl ?_ | refine za0 rfl rfl (decide_eq_true ⟨by omega, by omega⟩) ?_ | refine zax rfl rfl (by omega) (by omega) ?_ | refine zaf rfl rfl rfl ?_ | refine zbb rfl ?_ | refine zba rfl ?_)
   rw [w1]
   exact zcg (show args.length - (i + 1) < args.length - i by omega) (zbm (.cons rfl (.cons rfl (.cons rfl (.cons rfl (.cons rfl (.cons rfl (.cons rfl .nil)))))))) ⟨i + 1, _, w', _, _, _, rfl, hlt, hC', hg, by rw [hre]; exact hs', rfl⟩
  ·have h : ¬ yo = op := by simpa using h
   have hP : [.nd yo yi ya] = P := by rw [← hP]; exact (if_neg h).symm
   subst hP
   repeat (first | refine za1 rfl ?_ | refine zak ?_ | refine zal ?_ | refine zbe ?_ | refine zan ?_ | refine zaw ?_ | refine zbj rfl ?_ | refine zbk rfl ?_ | refine zb2 ?_ | refine zb0 ?_ | refine zb1 ?_ | refine za4 ?_ | refine za2 rfl ?_ | refine za3 ?_ | refine za5 ?_ | refine zbn rfl ?_ | refine zbq rfl rfl ?_ | refine zbu rfl ?_ | refine zao rfl ?_ | refine zav rfl rfl ?_ | refine zap rfl rfl rfl rfl ?_ | refine zam rfl rfl rfl rfl rfl rfl rfl ?_ | refine za7 rfl ?_ | refine zae rfl rfl rfl ?_ | refine za0 rfl rfl rfl ?_ | refine zab rfl rfl rfl rfl ?_ | refine zaq ?_ | refine zaj rfl rfl ?_ | refine zac rfl rfl ?_ | refine zbs rfl rfl ?_ | refine zbf rfl rfl ?_ | refine zay rfl rfl ?_ | refine zad rfl rfl ?_ | refine zbd rfl rfl ?_ | refine zaa rfl rfl rfl ?_ | refine zau rfl rfl ?_ | refine zah rfl rfl rfl rfl ?_ | refine za8 rfl rfl rfl rfl ?_ | refine zag rfl rfl rfl rfl ?_ | refine zb8 rfl rfl ?_ | refine zb5 rfl rfl ?_ | refine za9 rfl rfl ?_ | refine zb9 ?_ | refine zai env0_ok rfl rfl rfl ?_ | refine zas (op := .add) rfl rfl rfl ?_ | refine zas (op := .sub) rfl rfl rfl ?_ | refine zb7 rfl rfl rfl ?_ | refine zb6 rfl rfl rfl ?_ | refine zb3 rfl rfl rfl ?_ | refine zaz rfl rfl rfl ?_ | refine zb4 rfl rfl (by omega) (by assumption) rfl ?_ | refine za0 rfl rfl (decide_eq_true ⟨by omega, by omega⟩) ?_ | refine zax rfl rfl (by omega) (by omega) ?_ | refine zaf rfl rfl rfl ?_ | refine zbb rfl ?_ | refine zba rfl ?_)
   refine zml (nx + 1) (ck + 1) (cs := cX (.nd yo yi ya)) (l' := (8, .vs (cXs [.nd yo yi ya])) :: zih op ix args ne w i) (by rw [zbl, if_pos rfl]; rfl) rfl (.cons rfl (.fms rfl zhw ⟨[], by simp [cXs]⟩) (.cons rfl .same (.cons rfl .same (.cons rfl .same (.cons rfl .same (.cons rfl .same (.cons rfl .same (.cons rfl .same .nil)))))))) ?_
   refine zuw (hC2.box1 _ _) hs2 hr0 (.cons rfl (.cons rfl (.cons rfl (.cons rfl (.cons rfl (.cons rfl (.cons rfl (.cons rfl .nil)))))))) fun w' hp' nx' ck' hC' hs' => ?_
   unfold zih
   repeat (first | refine zar ?_ | refine za1 rfl ?_ | refine zak ?_ | refine zal ?_ | refine zbe ?_ | refine zan ?_ | refine zaw ?_ | refine zbj rfl ?_ | refine zbk rfl ?_ | refine zb2 ?_ | refine zb0 ?_ | refine zb1 ?_ | refine za4 ?_ | refine za2 rfl ?_ | refine za3 ?_ | refine za5 ?_ | refine zbn rfl ?_ | refine zbq rfl rfl ?_ | refine zbu rfl ?_ | refine zao rfl ?_ | refine zav rfl rfl ?_ | refine zap rfl rfl rfl rfl ?_ | refine zam rfl rfl rfl rfl rfl rfl rfl ?_ | refine za7 rfl ?_ | refine zae rfl rfl rfl ?_ | refine za0 rfl rfl rfl ?_ | refine zab rfl rfl rfl rfl ?_ | refine zaq ?_ | refine zaj rfl rfl ?_ | refine zac rfl rfl ?_ | refine zbs rfl rfl ?_ | refine zbf rfl rfl ?_ | refine zay rfl rfl ?_ | refine zad rfl rfl ?_ | refine zbd rfl rfl ?_ | refine zaa rfl rfl rfl ?_ | refine zau rfl rfl ?_ | refine zah rfl rfl rfl rfl ?_ | refine za8 rfl rfl rfl rfl ?_ | refine zag rfl rfl rfl rfl ?_ | refine zb8 rfl rfl ?_ | refine zb5 rfl rfl ?_ | refine za9 rfl rfl ?_ | refine zb9 ?_ | refine zai env0_ok rfl rfl rfl ?_ | refine zas (op := .add) rfl rfl rfl ?_ | refine zas (op := .sub) rfl rfl rfl ?_ | refine zb7 rfl rfl rfl ?_ | refine zb6 rfl rfl rfl ?_ | refine zb3 rfl rfl rfl ?_ | refine zaz rfl rfl rfl ?_ | refine zb4 rfl rfl (by omega) (by assumption) rfl ?_ | refine za0 rfl rfl (decide_eq_true ⟨by omega, by omega⟩) ?_ | refine zax rfl rfl (by omega) (by omega) ?_ | refine zaf rfl rfl rfl ?_ | refine zbb rfl ?_ | refine zba rfl ?_)
   rw [w1]
   exact zcg (show args.length - (i + 1) < args.length - i by omega) (zbm (.cons rfl (.cons rfl (.cons rfl (.cons rfl (.cons rfl (.cons rfl (.cons rfl .nil)))))))) ⟨i + 1, _, w', _, _, _, rfl, hlt, hC', hg, by rw [hre]; exact hs', rfl⟩
 ·have hie : i = args.length := by
   have h4 : ¬ ((i : Nat) : Int) < (((cXs args).length : Nat) : Int) := of_decide_eq_false h3
   omega
  subst hie
  rw [List.drop_length] at hg hs
  replace hg : l = G := hg
  rw [szL] at hs
  subst hg
  repeat (first | refine zbk rfl ?_ | refine zak ?_ | refine zal ?_ | refine zar ?_ | refine zb2 ?_ | refine za4 ?_)
  refine zev ?_
  refine zb1 (zal (zar ?_))
  have hl2 := zd7 l
  have hcl2 := zbi l
  refine z_cq (d1 := 1) (d2 := 2) (d3 := 4) (d4 := 5) hC rfl rfl rfl rfl rfl rfl ?_
  repeat (first | refine zar ?_ | refine za1 rfl ?_ | refine zak ?_ | refine zal ?_ | refine zbe ?_ | refine zan ?_ | refine zaw ?_ | refine zbj rfl ?_ | refine zbk rfl ?_ | refine zb2 ?_ | refine zb0 ?_ | refine zb1 ?_ | refine za4 ?_ | refine za2 rfl ?_ | refine za3 ?_ | refine za5 ?_ | refine zbn rfl ?_ | refine zbq rfl rfl ?_ | refine zbu rfl ?_ | refine zao rfl ?_ | refine zav rfl rfl ?_ | refine zap rfl rfl rfl rfl ?_ | refine zam rfl rfl rfl rfl rfl rfl rfl ?_ | refine za7 rfl ?_ | refine zae rfl rfl rfl ?_ | refine za0 rfl rfl rfl ?_ | refine zab rfl rfl rfl rfl ?_ | refine zaq ?_ | refine zaj rfl rfl ?_ | refine zac rfl rfl ?_ | refine zbs rfl rfl ?_ | refine zbf rfl rfl ?_ | refine zay rfl rfl ?_ | refine zad rfl rfl ?_ | refine zbd rfl rfl ?_ | refine zaa rfl rfl rfl ?_ | refine zau rfl rfl ?_ | refine zah rfl rfl rfl rfl ?_ | refine za8 rfl rfl rfl rfl ?_ | refine zag rfl rfl rfl rfl ?_ | refine zb8 rfl rfl ?_ | refine zb5 rfl rfl ?_ | refine za9 rfl rfl ?_ | refine zb9 ?_ | refine zai env0_ok rfl rfl rfl ?_ | refine zas (op := .add) rfl rfl rfl ?_ | refine zas (op := .sub) rfl rfl rfl ?_ | refine zb7 rfl rfl rfl ?_ | refine zb6 rfl rfl rfl ?_ | refine zb3 rfl rfl rfl ?_ | refine zaz rfl rfl rfl ?_ | refine zb4 rfl rfl (by omega) (by assumption) rfl ?_ | refine za0 rfl rfl (decide_eq_true ⟨by omega, by omega⟩) ?_ | refine zax rfl rfl (by omega) (by omega) ?_ | refine zaf rfl rfl rfl ?_ | refine zbb rfl ?_ | refine zba rfl ?_)
  refine zdu (fun mm S => ∃ j hp nx ck, mm = l.length - j ∧ j ≤ l.length ∧ l.any (zoo ne l) = (l.drop j).any (zoo ne l) ∧ Am.look 0 hp = some (0, .cells [.int .i64 0, .int .i64 0, .nils]) ∧
    S = st 120 [(1, .vptr (cX (.nd op ix args))), (2, .mptr 0 0 0), (4, .bool ne), (5, .vs (cXs l)), (85, .vs (cXs l)), (86, .int .i64 ((cXs l).length : Nat)), (87, .int .i64 (j : Nat))] hp nx ck) l.length
   (zbm (.cons rfl (.cons rfl (.cons rfl (.cons rfl (.cons rfl (.cons rfl (.cons rfl .nil)))))))) ⟨0, _, _, _, rfl, Nat.zero_le _, rfl, rfl, rfl⟩ ?_
  rintro mm S ⟨j, hp, nx, ck, rfl, hj, hany, h0, rfl⟩
  refine zct [(some (0, 0), [.int .i64 0, .int .i64 0, .nils])] [] [(1, .vptr (cX (.nd op ix args))), (2, .mptr 0 0 0), (4, .bool ne), (5, .vs (cXs l)), (85, .vs (cXs l)), (86, .int .i64 ((cXs l).length : Nat)), (87, .int .i64 (j : Nat))] rfl .nil (.cons h0 (.cons (.same rfl) (.cons (.same rfl) (.cons (.same rfl) .nil))) .nil) (.cons rfl (.same rfl) (.cons rfl (.mptr rfl) (.cons rfl (.same rfl) (.cons rfl (.same rfl) (.cons rfl (.same rfl) (.cons rfl (.same rfl) (.cons rfl (.same rfl) .nil))))))) ?_
  unfold b58_5
  repeat (first | refine zar ?_ | refine za1 rfl ?_ | refine zak ?_ | refine zal ?_ | refine zbe ?_ | refine zan ?_ | refine zaw ?_ | refine zbj rfl ?_ | refine zbk rfl ?_ | refine zb2 ?_ | refine zb0 ?_ | refine zb1 ?_ | refine za4 ?_ | refine za2 rfl ?_ | refine za3 ?_ | refine za5 ?_ | refine zbn rfl ?_ | refine zbq rfl rfl ?_ | refine zbu rfl ?_ | refine zao rfl ?_ | refine zav rfl rfl ?_ | refine zap rfl rfl rfl rfl ?_ | refine zam rfl rfl rfl rfl rfl rfl rfl ?_ | refine za7 rfl ?_ | refine zae rfl rfl rfl ?_ | refine za0 rfl rfl rfl ?_ | refine zab rfl rfl rfl rfl ?_ | refine zaq ?_ | refine zaj rfl rfl ?_ | refine zac rfl rfl ?_ | refine zbs rfl rfl ?_ | refine zbf rfl rfl ?_ | refine zay rfl rfl ?_ | refine zad rfl rfl ?_ | refine zbd rfl rfl ?_ | refine zaa rfl rfl rfl ?_ | refine zau rfl rfl ?_ | refine zah rfl rfl rfl rfl ?_ | refine za8 rfl rfl rfl rfl ?_ | refine zag rfl rfl rfl rfl ?_ | refine zb8 rfl rfl ?_ | refine zb5 rfl rfl ?_ | refine za9 rfl rfl ?_ | refine zb9 ?_ | refine zai env0_ok rfl rfl rfl ?_ | refine zas (op := .add) rfl rfl rfl ?_ | refine zas (op := .sub) rfl rfl rfl ?_ | refine zb7 rfl rfl rfl ?_ | refine zb6 rfl rfl rfl ?_ | refine zb3 rfl rfl rfl ?_ | refine zaz rfl rfl rfl ?_ | refine zb4 rfl rfl (by omega) (by assumption) rfl ?_ | refine za0 rfl rfl (decide_eq_true ⟨by omega, by omega⟩) ?_ | refine zax rfl rfl (by omega) (by omega) ?_ | refine zaf rfl rfl rfl ?_ | refine zbb rfl ?_ | refine zba rfl ?_)
  refine zbr rfl rfl rfl (fun h3 => ?_) fun h3 => ?_
  ·have hlt : j < l.length := by
    have h4 : ((j : Nat) : Int) < (((cXs l).length : Nat) : Int) := of_decide_eq_true h3
    omega
   have w1 : IntKind.wrap .i64 (((j : Nat) : Int) + 1) = ((j + 1 : Nat) : Int) := zc2 j (by omega)
   have hge := zdb hlt
   have hmem := zw9 (List.getElem_mem hlt)
   rw [List.drop_eq_getElem_cons hlt, List.any_cons] at hany
   generalize l[j] = y at *
   have p85 := is85 y (!ne)
   have p87 := neg87 y
   have p86 := zt1 l (negX y) (by omega) (by unfold negX; rw [szX, szL, szL]; omega)
   have hht : zoo ne l y = (isX y (!ne) || l.any (eqX (negX y))) := rfl
   generalize zoo ne l y = hh at *
   generalize isX y (!ne) = b1 at *
   generalize l.any (eqX (negX y)) = b2 at *
   have hny : negX y = .nd 2 0 [y] := rfl
   rw [hny] at p86 p87
   obtain ⟨yo, yi, ya⟩ := y
   have done : hh = true → zk1 op ne l = zk3 (!ne) := fun h => by
    unfold zk1
    rw [if_pos (by rw [hany, h, Bool.true_or])]
   have h0' : ∀ x y : AObj × Nat, True := fun _ _ => trivial
   repeat (first | refine zar ?_ | refine za1 rfl ?_ | refine zak ?_ | refine zal ?_ | refine zbe ?_ | refine zan ?_ | refine zaw ?_ | refine zbj rfl ?_ | refine zbk rfl ?_ | refine zb2 ?_ | refine zb0 ?_ | refine zb1 ?_ | refine za4 ?_ | refine za2 rfl ?_ | refine za3 ?_ | refine za5 ?_ | refine zbn rfl ?_ | refine zbq rfl rfl ?_ | refine zbu rfl ?_ | refine zao rfl ?_ | refine zav rfl rfl ?_ | refine zap rfl rfl rfl rfl ?_ | refine zam rfl rfl rfl rfl rfl rfl rfl ?_ | refine za7 rfl ?_ | refine zae rfl rfl rfl ?_ | refine za0 rfl rfl rfl ?_ | refine zab rfl rfl rfl rfl ?_ | refine zaq ?_ | refine zaj rfl rfl ?_ | refine zac rfl rfl ?_ | refine zbs rfl rfl ?_ | refine zbf rfl rfl ?_ | refine zay rfl rfl ?_ | refine zad rfl rfl ?_ | refine zbd rfl rfl ?_ | refine zaa rfl rfl rfl ?_ | refine zau rfl rfl ?_ | refine zah rfl rfl rfl rfl ?_ | refine za8 rfl rfl rfl rfl ?_ | refine zag rfl rfl rfl rfl ?_ | refine zb8 rfl rfl ?_ | refine zb5 rfl rfl ?_ | refine za9 rfl rfl ?_ | refine zb9 ?_ | refine zai env0_ok rfl rfl rfl ?_ | refine zas (op := .add) rfl rfl rfl ?_ | refine zas (op := .sub) rfl rfl rfl ?_ | refine zb7 rfl rfl rfl ?_ | refine zb6 rfl rfl rfl ?_ | refine zb3 rfl rfl rfl ?_ | refine zaz rfl rfl rfl ?_ | refine zb4 rfl rfl (by omega) (by assumption) rfl ?_ | refine za0 rfl rfl (decide_eq_true ⟨by omega, by omega⟩) ?_ | refine zax rfl rfl (by omega) (by omega) ?_ | refine zaf rfl rfl rfl ?_ | refine zbb rfl ?_ | refine zba rfl ?_)
   refine zbp rfl rfl p85 (fun h => Bool.noConfusion (show false = true from h)) ?_
   cases b1 with
   | true =>
    rw [done (by rw [hht, Bool.true_or])]
    repeat (first | refine zar ?_ | refine za1 rfl ?_ | refine zak ?_ | refine zal ?_ | refine zbe ?_ | refine zan ?_ | refine zaw ?_ | refine zbj rfl ?_ | refine zbk rfl ?_ | refine zb2 ?_ | refine zb0 ?_ | refine zb1 ?_ | refine za4 ?_ | refine za2 rfl ?_ | refine za3 ?_ | refine za5 ?_ | refine zbn rfl ?_ | refine zbq rfl rfl ?_ | refine zbu rfl ?_ | refine zao rfl ?_ | refine zav rfl rfl ?_ | refine zap rfl rfl rfl rfl ?_ | refine zam rfl rfl rfl rfl rfl rfl rfl ?_ | refine za7 rfl ?_ | refine zae rfl rfl rfl ?_ | refine za0 rfl rfl rfl ?_ | refine zab rfl rfl rfl rfl ?_ | refine zaq ?_ | refine zaj rfl rfl ?_ | refine zac rfl rfl ?_ | refine zbs rfl rfl ?_ | refine zbf rfl rfl ?_ | refine zay rfl rfl ?_ | refine zad rfl rfl ?_ | refine zbd rfl rfl ?_ | refine zaa rfl rfl rfl ?_ | refine zau rfl rfl ?_ | refine zah rfl rfl rfl rfl ?_ | refine za8 rfl rfl rfl rfl ?_ | refine zag rfl rfl rfl rfl ?_ | refine zb8 rfl rfl ?_ | refine zb5 rfl rfl ?_ | refine za9 rfl rfl ?_ | refine zb9 ?_ | refine zai env0_ok rfl rfl rfl ?_ | refine zas (op := .add) rfl rfl rfl ?_ | refine zas (op := .sub) rfl rfl rfl ?_ | refine zb7 rfl rfl rfl ?_ | refine zb6 rfl rfl rfl ?_ | refine zb3 rfl rfl rfl ?_ | refine zaz rfl rfl rfl ?_ | refine zb4 rfl rfl (by omega) (by assumption) rfl ?_ | refine za0 rfl rfl (decide_eq_true ⟨by omega, by omega⟩) ?_ | refine zax rfl rfl (by omega) (by omega) ?_ | refine zaf rfl rfl rfl ?_ | refine zbb rfl ?_ | refine zba rfl ?_)
    refine zbp rfl rfl (zis (!ne)) (fun h => Bool.noConfusion (show false = true from h)) ?_
    repeat (first | refine zar ?_ | refine za1 rfl ?_ | refine zak ?_ | refine zal ?_ | refine zbe ?_ | refine zan ?_ | refine zaw ?_ | refine zbj rfl ?_ | refine zbk rfl ?_ | refine zb2 ?_ | refine zb0 ?_ | refine zb1 ?_ | refine za4 ?_ | refine za2 rfl ?_ | refine za3 ?_ | refine za5 ?_ | refine zbn rfl ?_ | refine zbq rfl rfl ?_ | refine zbu rfl ?_ | refine zao rfl ?_ | refine zav rfl rfl ?_ | refine zap rfl rfl rfl rfl ?_ | refine zam rfl rfl rfl rfl rfl rfl rfl ?_ | refine za7 rfl ?_ | refine zae rfl rfl rfl ?_ | refine za0 rfl rfl rfl ?_ | refine zab rfl rfl rfl rfl ?_ | refine zaq ?_ | refine zaj rfl rfl ?_ | refine zac rfl rfl ?_ | refine zbs rfl rfl ?_ | refine zbf rfl rfl ?_ | refine zay rfl rfl ?_ | refine zad rfl rfl ?_ | refine zbd rfl rfl ?_ | refine zaa rfl rfl rfl ?_ | refine zau rfl rfl ?_ | refine zah rfl rfl rfl rfl ?_ | refine za8 rfl rfl rfl rfl ?_ | refine zag rfl rfl rfl rfl ?_ | refine zb8 rfl rfl ?_ | refine zb5 rfl rfl ?_ | refine za9 rfl rfl ?_ | refine zb9 ?_ | refine zai env0_ok rfl rfl rfl ?_ | refine zas (op := .add) rfl rfl rfl ?_ | refine zas (op := .sub) rfl rfl rfl ?_ | refine zb7 rfl rfl rfl ?_ | refine zb6 rfl rfl rfl ?_ | refine zb3 rfl rfl rfl ?_ | refine zaz rfl rfl rfl ?_ | refine zb4 rfl rfl (by omega) (by assumption) rfl ?_ | refine za0 rfl rfl (decide_eq_true ⟨by omega, by omega⟩) ?_ | refine zax rfl rfl (by omega) (by omega) ?_ | refine zaf rfl rfl rfl ?_ | refine zbb rfl ?_ | refine zba rfl ?_)
    exact zbh ⟨.inr rfl, _, rfl, rfl⟩
   | false =>
    rw [Bool.false_or] at hht
    repeat (first | refine zar ?_ | refine za1 rfl ?_ | refine zak ?_ | refine zal ?_ | refine zbe ?_ | refine zan ?_ | refine zaw ?_ | refine zbj rfl ?_ | refine zbk rfl ?_ | refine zb2 ?_ | refine zb0 ?_ | refine zb1 ?_ | refine za4 ?_ | refine za2 rfl ?_ | refine za3 ?_ | refine za5 ?_ | refine zbn rfl ?_ | refine zbq rfl rfl ?_ | refine zbu rfl ?_ | refine zao rfl ?_ | refine zav rfl rfl ?_ | refine zap rfl rfl rfl rfl ?_ | refine zam rfl rfl rfl rfl rfl rfl rfl ?_ | refine za7 rfl ?_ | refine zae rfl rfl rfl ?_ | refine za0 rfl rfl rfl ?_ | refine zab rfl rfl rfl rfl ?_ | refine zaq ?_ | refine zaj rfl rfl ?_ | refine zac rfl rfl ?_ | refine zbs rfl rfl ?_ | refine zbf rfl rfl ?_ | refine zay rfl rfl ?_ | refine zad rfl rfl ?_ | refine zbd rfl rfl ?_ | refine zaa rfl rfl rfl ?_ | refine zau rfl rfl ?_ | refine zah rfl rfl rfl rfl ?_ | refine za8 rfl rfl rfl rfl ?_ | refine zag rfl rfl rfl rfl ?_ | refine zb8 rfl rfl ?_ | refine zb5 rfl rfl ?_ | refine za9 rfl rfl ?_ | refine zb9 ?_ | refine zai env0_ok rfl rfl rfl ?_ | refine zas (op := .add) rfl rfl rfl ?_ | refine zas (op := .sub) rfl rfl rfl ?_ | refine zb7 rfl rfl rfl ?_ | refine zb6 rfl rfl rfl ?_ | refine zb3 rfl rfl rfl ?_ | refine zaz rfl rfl rfl ?_ | refine zb4 rfl rfl (by omega) (by assumption) rfl ?_ | refine za0 rfl rfl (decide_eq_true ⟨by omega, by omega⟩) ?_ | refine zax rfl rfl (by omega) (by omega) ?_ | refine zaf rfl rfl rfl ?_ | refine zbb rfl ?_ | refine zba rfl ?_)
    refine zbp rfl rfl p87 (fun h => Bool.noConfusion (show false = true from h)) ?_
    repeat (first | refine zar ?_ | refine za1 rfl ?_ | refine zak ?_ | refine zal ?_ | refine zbe ?_ | refine zan ?_ | refine zaw ?_ | refine zbj rfl ?_ | refine zbk rfl ?_ | refine zb2 ?_ | refine zb0 ?_ | refine zb1 ?_ | refine za4 ?_ | refine za2 rfl ?_ | refine za3 ?_ | refine za5 ?_ | refine zbn rfl ?_ | refine zbq rfl rfl ?_ | refine zbu rfl ?_ | refine zao rfl ?_ | refine zav rfl rfl ?_ | refine zap rfl rfl rfl rfl ?_ | refine zam rfl rfl rfl rfl rfl rfl rfl ?_ | refine za7 rfl ?_ | refine zae rfl rfl rfl ?_ | refine za0 rfl rfl rfl ?_ | refine zab rfl rfl rfl rfl ?_ | refine zaq ?_ | refine zaj rfl rfl ?_ | refine zac rfl rfl ?_ | refine zbs rfl rfl ?_ | refine zbf rfl rfl ?_ | refine zay rfl rfl ?_ | refine zad rfl rfl ?_ | refine zbd rfl rfl ?_ | refine zaa rfl rfl rfl ?_ | refine zau rfl rfl ?_ | refine zah rfl rfl rfl rfl ?_ | refine za8 rfl rfl rfl rfl ?_ | refine zag rfl rfl rfl rfl ?_ | refine zb8 rfl rfl ?_ | refine zb5 rfl rfl ?_ | refine za9 rfl rfl ?_ | refine zb9 ?_ | refine zai env0_ok rfl rfl rfl ?_ | refine zas (op := .add) rfl rfl rfl ?_ | refine zas (op := .sub) rfl rfl rfl ?_ | refine zb7 rfl rfl rfl ?_ | refine zb6 rfl rfl rfl ?_ | refine zb3 rfl rfl rfl ?_ | refine zaz rfl rfl rfl ?_ | refine zb4 rfl rfl (by omega) (by assumption) rfl ?_ | refine za0 rfl rfl (decide_eq_true ⟨by omega, by omega⟩) ?_ | refine zax rfl rfl (by omega) (by omega) ?_ | refine zaf rfl rfl rfl ?_ | refine zbb rfl ?_ | refine zba rfl ?_)
    refine zbp rfl rfl p86 (fun h => Bool.noConfusion (show false = true from h)) ?_
    cases b2 with
    | true =>
     rw [done hht]
     repeat (first | refine zar ?_ | refine za1 rfl ?_ | refine zak ?_ | refine zal ?_ | refine zbe ?_ | refine zan ?_ | refine zaw ?_ | refine zbj rfl ?_ | refine zbk rfl ?_ | refine zb2 ?_ | refine zb0 ?_ | refine zb1 ?_ | refine za4 ?_ | refine za2 rfl ?_ | refine za3 ?_ | refine za5 ?_ | refine zbn rfl ?_ | refine zbq rfl rfl ?_ | refine zbu rfl ?_ | refine zao rfl ?_ | refine zav rfl rfl ?_ | refine zap rfl rfl rfl rfl ?_ | refine zam rfl rfl rfl rfl rfl rfl rfl ?_ | refine za7 rfl ?_ | refine zae rfl rfl rfl ?_ | refine za0 rfl rfl rfl ?_ | refine zab rfl rfl rfl rfl ?_ | refine zaq ?_ | refine zaj rfl rfl ?_ | refine zac rfl rfl ?_ | refine zbs rfl rfl ?_ | refine zbf rfl rfl ?_ | refine zay rfl rfl ?_ | refine zad rfl rfl ?_ | refine zbd rfl rfl ?_ | refine zaa rfl rfl rfl ?_ | refine zau rfl rfl ?_ | refine zah rfl rfl rfl rfl ?_ | refine za8 rfl rfl rfl rfl ?_ | refine zag rfl rfl rfl rfl ?_ | refine zb8 rfl rfl ?_ | refine zb5 rfl rfl ?_ | refine za9 rfl rfl ?_ | refine zb9 ?_ | refine zai env0_ok rfl rfl rfl ?_ | refine zas (op := .add) rfl rfl rfl ?_ | refine zas (op := .sub) rfl rfl rfl ?_ | refine zb7 rfl rfl rfl ?_ | refine zb6 rfl rfl rfl ?_ | refine zb3 rfl rfl rfl ?_ | refine zaz rfl rfl rfl ?_ | refine zb4 rfl rfl (by omega) (by assumption) rfl ?_ | refine za0 rfl rfl (decide_eq_true ⟨by omega, by omega⟩) ?_ | refine zax rfl rfl (by omega) (by omega) ?_ | refine zaf rfl rfl rfl ?_ | refine zbb rfl ?_ | refine zba rfl ?_)
     refine zbp rfl rfl (zis (!ne)) (fun h => Bool.noConfusion (show false = true from h)) ?_
     repeat (first | refine zar ?_ | refine za1 rfl ?_ | refine zak ?_ | refine zal ?_ | refine zbe ?_ | refine zan ?_ | refine zaw ?_ | refine zbj rfl ?_ | refine zbk rfl ?_ | refine zb2 ?_ | refine zb0 ?_ | refine zb1 ?_ | refine za4 ?_ | refine za2 rfl ?_ | refine za3 ?_ | refine za5 ?_ | refine zbn rfl ?_ | refine zbq rfl rfl ?_ | refine zbu rfl ?_ | refine zao rfl ?_ | refine zav rfl rfl ?_ | refine zap rfl rfl rfl rfl ?_ | refine zam rfl rfl rfl rfl rfl rfl rfl ?_ | refine za7 rfl ?_ | refine zae rfl rfl rfl ?_ | refine za0 rfl rfl rfl ?_ | refine zab rfl rfl rfl rfl ?_ | refine zaq ?_ | refine zaj rfl rfl ?_ | refine zac rfl rfl ?_ | refine zbs rfl rfl ?_ | refine zbf rfl rfl ?_ | refine zay rfl rfl ?_ | refine zad rfl rfl ?_ | refine zbd rfl rfl ?_ | refine zaa rfl rfl rfl ?_ | refine zau rfl rfl ?_ | refine zah rfl rfl rfl rfl ?_ | refine za8 rfl rfl rfl rfl ?_ | refine zag rfl rfl rfl rfl ?_ | refine zb8 rfl rfl ?_ | refine zb5 rfl rfl ?_ | refine za9 rfl rfl ?_ | refine zb9 ?_ | refine zai env0_ok rfl rfl rfl ?_ | refine zas (op := .add) rfl rfl rfl ?_ | refine zas (op := .sub) rfl rfl rfl ?_ | refine zb7 rfl rfl rfl ?_ | refine zb6 rfl rfl rfl ?_ | refine zb3 rfl rfl rfl ?_ | refine zaz rfl rfl rfl ?_ | refine zb4 rfl rfl (by omega) (by assumption) rfl ?_ | refine za0 rfl rfl (decide_eq_true ⟨by omega, by omega⟩) ?_ | refine zax rfl rfl (by omega) (by omega) ?_ | refine zaf rfl rfl rfl ?_ | refine zbb rfl ?_ | refine zba rfl ?_)
     exact zbh ⟨.inr rfl, _, rfl, rfl⟩
    | false =>
     rw [hht, Bool.false_or] at hany
     repeat (first | refine zar ?_ | refine za1 rfl ?_ | refine zak ?_ | refine zal ?_ | refine zbe ?_ | refine zan ?_ | refine zaw ?_ | refine zbj rfl ?_ | refine zbk rfl ?_ | refine zb2 ?_ | refine zb0 ?_ | refine zb1 ?_ | refine za4 ?_ | refine za2 rfl ?_ | refine za3 ?_ | refine za5 ?_ | refine zbn rfl ?_ | refine zbq rfl rfl ?_ | refine zbu rfl ?_ | refine zao rfl ?_ | refine zav rfl rfl ?_ | refine zap rfl rfl rfl rfl ?_ | refine zam rfl rfl rfl rfl rfl rfl rfl ?_ | refine za7 rfl ?_ | refine zae rfl rfl rfl ?_ | refine za0 rfl rfl rfl ?_ | refine zab rfl rfl rfl rfl ?_ | refine zaq ?_ | refine zaj rfl rfl ?_ | refine zac rfl rfl ?_ | refine zbs rfl rfl ?_ | refine zbf rfl rfl ?_ | refine zay rfl rfl ?_ | refine zad rfl rfl ?_ | refine zbd rfl rfl ?_ | refine zaa rfl rfl rfl ?_ | refine zau rfl rfl ?_ | refine zah rfl rfl rfl rfl ?_ | refine za8 rfl rfl rfl rfl ?_ | refine zag rfl rfl rfl rfl ?_ | refine zb8 rfl rfl ?_ | refine zb5 rfl rfl ?_ | refine za9 rfl rfl ?_ | refine zb9 ?_ | refine zai env0_ok rfl rfl rfl ?_ | refine zas (op := .add) rfl rfl rfl ?_ | refine zas (op := .sub) rfl rfl rfl ?_ | refine zb7 rfl rfl rfl ?_ | refine zb6 rfl rfl rfl ?_ | refine zb3 rfl rfl rfl ?_ | refine zaz rfl rfl rfl ?_ | refine zb4 rfl rfl (by omega) (by assumption) rfl ?_ | refine za0 rfl rfl (decide_eq_true ⟨by omega, by omega⟩) ?_ | refine zax rfl rfl (by omega) (by omega) ?_ | refine zaf rfl rfl rfl ?_ | refine zbb rfl ?_ | refine zba rfl ?_)
     rw [w1]
     exact zcg (show l.length - (j + 1) < l.length - j by omega) (zbm (.cons rfl (.cons rfl (.cons rfl (.cons rfl (.cons rfl (.cons rfl (.cons rfl .nil)))))))) ⟨j + 1, _, _, _, rfl, hlt, hany, rfl, rfl⟩
  ·have hie : j = l.length := by
    have h4 : ¬ ((j : Nat) : Int) < (((cXs l).length : Nat) : Int) := of_decide_eq_false h3
    omega
   subst hie
   rw [List.drop_length, List.any_nil] at hany
   have hf : zk1 op ne l = lastX op ne l := by
    unfold zk1
    rw [if_neg (by rw [hany]; exact Bool.false_ne_true)]
   rw [hf]
   clear hf hany hl2 hcl2 hs hC h3 hG hj h0
   match l with
   | [] =>
    repeat (first | refine zar ?_ | refine za1 rfl ?_ | refine zak ?_ | refine zal ?_ | refine zbe ?_ | refine zan ?_ | refine zaw ?_ | refine zbj rfl ?_ | refine zbk rfl ?_ | refine zb2 ?_ | refine zb0 ?_ | refine zb1 ?_ | refine za4 ?_ | refine za2 rfl ?_ | refine za3 ?_ | refine za5 ?_ | refine zbn rfl ?_ | refine zbq rfl rfl ?_ | refine zbu rfl ?_ | refine zao rfl ?_ | refine zav rfl rfl ?_ | refine zap rfl rfl rfl rfl ?_ | refine zam rfl rfl rfl rfl rfl rfl rfl ?_ | refine za7 rfl ?_ | refine zae rfl rfl rfl ?_ | refine za0 rfl rfl rfl ?_ | refine zab rfl rfl rfl rfl ?_ | refine zaq ?_ | refine zaj rfl rfl ?_ | refine zac rfl rfl ?_ | refine zbs rfl rfl ?_ | refine zbf rfl rfl ?_ | refine zay rfl rfl ?_ | refine zad rfl rfl ?_ | refine zbd rfl rfl ?_ | refine zaa rfl rfl rfl ?_ | refine zau rfl rfl ?_ | refine zah rfl rfl rfl rfl ?_ | refine za8 rfl rfl rfl rfl ?_ | refine zag rfl rfl rfl rfl ?_ | refine zb8 rfl rfl ?_ | refine zb5 rfl rfl ?_ | refine za9 rfl rfl ?_ | refine zb9 ?_ | refine zai env0_ok rfl rfl rfl ?_ | refine zas (op := .add) rfl rfl rfl ?_ | refine zas (op := .sub) rfl rfl rfl ?_ | refine zb7 rfl rfl rfl ?_ | refine zb6 rfl rfl rfl ?_ | refine zb3 rfl rfl rfl ?_ | refine zaz rfl rfl rfl ?_ | refine zb4 rfl rfl (by omega) (by assumption) rfl ?_ | refine za0 rfl rfl (decide_eq_true ⟨by omega, by omega⟩) ?_ | refine zax rfl rfl (by omega) (by omega) ?_ | refine zaf rfl rfl rfl ?_ | refine zbb rfl ?_ | refine zba rfl ?_)
    refine zev ?_
    repeat (first | refine zar ?_ | refine za1 rfl ?_ | refine zak ?_ | refine zal ?_ | refine zbe ?_ | refine zan ?_ | refine zaw ?_ | refine zbj rfl ?_ | refine zbk rfl ?_ | refine zb2 ?_ | refine zb0 ?_ | refine zb1 ?_ | refine za4 ?_ | refine za2 rfl ?_ | refine za3 ?_ | refine za5 ?_ | refine zbn rfl ?_ | refine zbq rfl rfl ?_ | refine zbu rfl ?_ | refine zao rfl ?_ | refine zav rfl rfl ?_ | refine zap rfl rfl rfl rfl ?_ | refine zam rfl rfl rfl rfl rfl rfl rfl ?_ | refine za7 rfl ?_ | refine zae rfl rfl rfl ?_ | refine za0 rfl rfl rfl ?_ | refine zab rfl rfl rfl rfl ?_ | refine zaq ?_ | refine zaj rfl rfl ?_ | refine zac rfl rfl ?_ | refine zbs rfl rfl ?_ | refine zbf rfl rfl ?_ | refine zay rfl rfl ?_ | refine zad rfl rfl ?_ | refine zbd rfl rfl ?_ | refine zaa rfl rfl rfl ?_ | refine zau rfl rfl ?_ | refine zah rfl rfl rfl rfl ?_ | refine za8 rfl rfl rfl rfl ?_ | refine zag rfl rfl rfl rfl ?_ | refine zb8 rfl rfl ?_ | refine zb5 rfl rfl ?_ | refine za9 rfl rfl ?_ | refine zb9 ?_ | refine zai env0_ok rfl rfl rfl ?_ | refine zas (op := .add) rfl rfl rfl ?_ | refine zas (op := .sub) rfl rfl rfl ?_ | refine zb7 rfl rfl rfl ?_ | refine zb6 rfl rfl rfl ?_ | refine zb3 rfl rfl rfl ?_ | refine zaz rfl rfl rfl ?_ | refine zb4 rfl rfl (by omega) (by assumption) rfl ?_ | refine za0 rfl rfl (decide_eq_true ⟨by omega, by omega⟩) ?_ | refine zax rfl rfl (by omega) (by omega) ?_ | refine zaf rfl rfl rfl ?_ | refine zbb rfl ?_ | refine zba rfl ?_)
    refine zbp rfl rfl (zis ne) (fun h => Bool.noConfusion (show false = true from h)) ?_
    repeat (first | refine zar ?_ | refine za1 rfl ?_ | refine zak ?_ | refine zal ?_ | refine zbe ?_ | refine zan ?_ | refine zaw ?_ | refine zbj rfl ?_ | refine zbk rfl ?_ | refine zb2 ?_ | refine zb0 ?_ | refine zb1 ?_ | refine za4 ?_ | refine za2 rfl ?_ | refine za3 ?_ | refine za5 ?_ | refine zbn rfl ?_ | refine zbq rfl rfl ?_ | refine zbu rfl ?_ | refine zao rfl ?_ | refine zav rfl rfl ?_ | refine zap rfl rfl rfl rfl ?_ | refine zam rfl rfl rfl rfl rfl rfl rfl ?_ | refine za7 rfl ?_ | refine zae rfl rfl rfl ?_ | refine za0 rfl rfl rfl ?_ | refine zab rfl rfl rfl rfl ?_ | refine zaq ?_ | refine zaj rfl rfl ?_ | refine zac rfl rfl ?_ | refine zbs rfl rfl ?_ | refine zbf rfl rfl ?_ | refine zay rfl rfl ?_ | refine zad rfl rfl ?_ | refine zbd rfl rfl ?_ | refine zaa rfl rfl rfl ?_ | refine zau rfl rfl ?_ | refine zah rfl rfl rfl rfl ?_ | refine za8 rfl rfl rfl rfl ?_ | refine zag rfl rfl rfl rfl ?_ | refine zb8 rfl rfl ?_ | refine zb5 rfl rfl ?_ | refine za9 rfl rfl ?_ | refine zb9 ?_ | refine zai env0_ok rfl rfl rfl ?_ | refine zas (op := .add) rfl rfl rfl ?_ | refine zas (op := .sub) rfl rfl rfl ?_ | refine zb7 rfl rfl rfl ?_ | refine zb6 rfl rfl rfl ?_ | refine zb3 rfl rfl rfl ?_ | refine zaz rfl rfl rfl ?_ | refine zb4 rfl rfl (by omega) (by assumption) rfl ?_ | refine za0 rfl rfl (decide_eq_true ⟨by omega, by omega⟩) ?_ | refine zax rfl rfl (by omega) (by omega) ?_ | refine zaf rfl rfl rfl ?_ | refine zbb rfl ?_ | refine zba rfl ?_)
    exact zbh ⟨.inr rfl, _, rfl, rfl⟩
   | [y] =>
    have hg0 : (cXs [y])[((0 : Int)).toNat]? = some (cX y) := rfl
    obtain ⟨yo, yi, ya⟩ := y
    repeat (first | refine zar ?_ | refine za1 rfl ?_ | refine zak ?_ | refine zal ?_ | refine zbe ?_ | refine zan ?_ | refine zaw ?_ | refine zbj rfl ?_ | refine zbk rfl ?_ | refine zb2 ?_ | refine zb0 ?_ | refine zb1 ?_ | refine za4 ?_ | refine za2 rfl ?_ | refine za3 ?_ | refine za5 ?_ | refine zbn rfl ?_ | refine zbq rfl rfl ?_ | refine zbu rfl ?_ | refine zao rfl ?_ | refine zav rfl rfl ?_ | refine zap rfl rfl rfl rfl ?_ | refine zam rfl rfl rfl rfl rfl rfl rfl ?_ | refine za7 rfl ?_ | refine zae rfl rfl rfl ?_ | refine za0 rfl rfl rfl ?_ | refine zab rfl rfl rfl rfl ?_ | refine zaq ?_ | refine zaj rfl rfl ?_ | refine zac rfl rfl ?_ | refine zbs rfl rfl ?_ | refine zbf rfl rfl ?_ | refine zay rfl rfl ?_ | refine zad rfl rfl ?_ | refine zbd rfl rfl ?_ | refine zaa rfl rfl rfl ?_ | refine zau rfl rfl ?_ | refine zah rfl rfl rfl rfl ?_ | refine za8 rfl rfl rfl rfl ?_ | refine zag rfl rfl rfl rfl ?_ | refine zb8 rfl rfl ?_ | refine zb5 rfl rfl ?_ | refine za9 rfl rfl ?_ | refine zb9 ?_ | refine zai env0_ok rfl rfl rfl ?_ | refine zas (op := .add) rfl rfl rfl ?_ | refine zas (op := .sub) rfl rfl rfl ?_ | refine zb7 rfl rfl rfl ?_ | refine zb6 rfl rfl rfl ?_ | refine zb3 rfl rfl rfl ?_ | refine zaz rfl rfl rfl ?_ | refine zb4 rfl rfl (by omega) (by assumption) rfl ?_ | refine za0 rfl rfl (decide_eq_true ⟨by omega, by omega⟩) ?_ | refine zax rfl rfl (by omega) (by omega) ?_ | refine zaf rfl rfl rfl ?_ | refine zbb rfl ?_ | refine zba rfl ?_)
    refine zev ?_
    repeat (first | refine zar ?_ | refine za1 rfl ?_ | refine zak ?_ | refine zal ?_ | refine zbe ?_ | refine zan ?_ | refine zaw ?_ | refine zbj rfl ?_ | refine zbk rfl ?_ | refine zb2 ?_ | refine zb0 ?_ | refine zb1 ?_ | refine za4 ?_ | refine za2 rfl ?_ | refine za3 ?_ | refine za5 ?_ | refine zbn rfl ?_ | refine zbq rfl rfl ?_ | refine zbu rfl ?_ | refine zao rfl ?_ | refine zav rfl rfl ?_ | refine zap rfl rfl rfl rfl ?_ | refine zam rfl rfl rfl rfl rfl rfl rfl ?_ | refine za7 rfl ?_ | refine zae rfl rfl rfl ?_ | refine za0 rfl rfl rfl ?_ | refine zab rfl rfl rfl rfl ?_ | refine zaq ?_ | refine zaj rfl rfl ?_ | refine zac rfl rfl ?_ | refine zbs rfl rfl ?_ | refine zbf rfl rfl ?_ | refine zay rfl rfl ?_ | refine zad rfl rfl ?_ | refine zbd rfl rfl ?_ | refine zaa rfl rfl rfl ?_ | refine zau rfl rfl ?_ | refine zah rfl rfl rfl rfl ?_ | refine za8 rfl rfl rfl rfl ?_ | refine zag rfl rfl rfl rfl ?_ | refine zb8 rfl rfl ?_ | refine zb5 rfl rfl ?_ | refine za9 rfl rfl ?_ | refine zb9 ?_ | refine zai env0_ok rfl rfl rfl ?_ | refine zas (op := .add) rfl rfl rfl ?_ | refine zas (op := .sub) rfl rfl rfl ?_ | refine zb7 rfl rfl rfl ?_ | refine zb6 rfl rfl rfl ?_ | refine zb3 rfl rfl rfl ?_ | refine zaz rfl rfl rfl ?_ | refine zb4 rfl rfl (by omega) (by assumption) rfl ?_ | refine za0 rfl rfl (decide_eq_true ⟨by omega, by omega⟩) ?_ | refine zax rfl rfl (by omega) (by omega) ?_ | refine zaf rfl rfl rfl ?_ | refine zbb rfl ?_ | refine zba rfl ?_)
    exact zbh ⟨.inr rfl, _, rfl, rfl⟩
   | y :: z :: r =>
    have e1 : Am.binOp .eql (.int .i64 ((cXs (y :: z :: r)).length : Nat)) (.int .i64 1) = some (.bool false) := by
     show some (AV.bool (((cXs (y :: z :: r)).length : Int) == 1)) = _
     rw [beq_eq_false_iff_ne.2 (by rw [zbi]; simp; omega)]
    repeat (first | refine zar ?_ | refine za1 rfl ?_ | refine zak ?_ | refine zal ?_ | refine zbe ?_ | refine zan ?_ | refine zaw ?_ | refine zbj rfl ?_ | refine zbk rfl ?_ | refine zb2 ?_ | refine zb0 ?_ | refine zb1 ?_ | refine za4 ?_ | refine za2 rfl ?_ | refine za3 ?_ | refine za5 ?_ | refine zbn rfl ?_ | refine zbq rfl rfl ?_ | refine zbu rfl ?_ | refine zao rfl ?_ | refine zav rfl rfl ?_ | refine zap rfl rfl rfl rfl ?_ | refine zam rfl rfl rfl rfl rfl rfl rfl ?_ | refine za7 rfl ?_ | refine zae rfl rfl rfl ?_ | refine za0 rfl rfl rfl ?_ | refine zab rfl rfl rfl rfl ?_ | refine zaq ?_ | refine zaj rfl rfl ?_ | refine zac rfl rfl ?_ | refine zbs rfl rfl ?_ | refine zbf rfl rfl ?_ | refine zay rfl rfl ?_ | refine zad rfl rfl ?_ | refine zbd rfl rfl ?_ | refine zaa rfl rfl rfl ?_ | refine zau rfl rfl ?_ | refine zah rfl rfl rfl rfl ?_ | refine za8 rfl rfl rfl rfl ?_ | refine zag rfl rfl rfl rfl ?_ | refine zb8 rfl rfl ?_ | refine zb5 rfl rfl ?_ | refine za9 rfl rfl ?_ | refine zb9 ?_ | refine zai env0_ok rfl rfl rfl ?_ | refine zas (op := .add) rfl rfl rfl ?_ | refine zas (op := .sub) rfl rfl rfl ?_ | refine zb7 rfl rfl rfl ?_ | refine zb6 rfl rfl rfl ?_ | refine zb3 rfl rfl rfl ?_ | refine zaz rfl rfl rfl ?_ | refine zb4 rfl rfl (by omega) (by assumption) rfl ?_ | refine za0 rfl rfl (decide_eq_true ⟨by omega, by omega⟩) ?_ | refine zax rfl rfl (by omega) (by omega) ?_ | refine zaf rfl rfl rfl ?_ | refine zbb rfl ?_ | refine zba rfl ?_)
    refine zev ?_
    repeat (first | refine zar ?_ | refine za1 rfl ?_ | refine zak ?_ | refine zal ?_ | refine zbe ?_ | refine zan ?_ | refine zaw ?_ | refine zbj rfl ?_ | refine zbk rfl ?_ | refine zb2 ?_ | refine zb0 ?_ | refine zb1 ?_ | refine za4 ?_ | refine za2 rfl ?_ | refine za3 ?_ | refine za5 ?_ | refine zbn rfl ?_ | refine zbq rfl rfl ?_ | refine zbu rfl ?_ | refine zao rfl ?_ | refine zav rfl rfl ?_ | refine zap rfl rfl rfl rfl ?_ | refine zam rfl rfl rfl rfl rfl rfl rfl ?_ | refine za7 rfl ?_ | refine zae rfl rfl rfl ?_ | refine za0 rfl rfl rfl ?_ | refine zab rfl rfl rfl rfl ?_ | refine zaq ?_ | refine zaj rfl rfl ?_ | refine zac rfl rfl ?_ | refine zbs rfl rfl ?_ | refine zbf rfl rfl ?_ | refine zay rfl rfl ?_ | refine zad rfl rfl ?_ | refine zbd rfl rfl ?_ | refine zaa rfl rfl rfl ?_ | refine zau rfl rfl ?_ | refine zah rfl rfl rfl rfl ?_ | refine za8 rfl rfl rfl rfl ?_ | refine zag rfl rfl rfl rfl ?_ | refine zb8 rfl rfl ?_ | refine zb5 rfl rfl ?_ | refine za9 rfl rfl ?_ | refine zb9 ?_ | refine zai env0_ok rfl rfl rfl ?_ | refine zas (op := .add) rfl rfl rfl ?_ | refine zas (op := .sub) rfl rfl rfl ?_ | refine zb7 rfl rfl rfl ?_ | refine zb6 rfl rfl rfl ?_ | refine zb3 rfl rfl rfl ?_ | refine zaz rfl rfl rfl ?_ | refine zb4 rfl rfl (by omega) (by assumption) rfl ?_ | refine za0 rfl rfl (decide_eq_true ⟨by omega, by omega⟩) ?_ | refine zax rfl rfl (by omega) (by omega) ?_ | refine zaf rfl rfl rfl ?_ | refine zbb rfl ?_ | refine zba rfl ?_)
    exact zbh ⟨.inr rfl, _, rfl, rfl⟩
theorem zv6 {op : Int} (ix : Int) (args : List Ex) (ho : op = 3 ∨ op = 4) (hsz : szL args ≤ 255) : PF Try.prog 58 [.agg (cX (.nd op ix args))] (.agg (cX (zk1 op (op == 3) (zdv op (op == 3) [] args)))) := by
 have hr := fun w0 N0 => rest58 (w0 := w0) (N0 := N0) ix args ho hsz
 generalize zk1 op (op == 3) (zdv op (op == 3) [] args) = R at *
 rcases ho with rfl | rfl
 ·refine zbv env0_ok fn58 [(0, .agg (cX (.nd 3 ix args)))] (by show 1 ≤ 120; decide) rfl fun w0 N0 => ?_
  replace hr := hr w0 N0
  unfold ic58 at hr ⊢
  refine zar (za1 rfl (zbd rfl rfl (zaq (zak (zal ?_)))))
  refine zct [(some (1, 1), [.int .i64 0, .int .i64 0, .nils])] [(0, 0, cX (.nd 3 ix args))] [(1, .vptr (cX (.nd 3 ix args))), (2, .mptr 0 0 0)] rfl (.cons rfl rfl .nil) (.cons rfl (.cons (.same rfl) (.cons (.same rfl) (.cons (.same rfl) .nil))) .nil) (.cons rfl (.fptr rfl rfl) (.cons rfl (.mptr rfl) .nil)) ?_
  refine zar ?_
  repeat (first | refine za1 rfl ?_ | refine zak ?_ | refine zal ?_ | refine zbe ?_ | refine zan ?_ | refine zaw ?_ | refine zbj rfl ?_ | refine zbk rfl ?_ | refine zb2 ?_ | refine zb0 ?_ | refine zb1 ?_ | refine za4 ?_ | refine za2 rfl ?_ | refine za3 ?_ | refine za5 ?_ | refine zbn rfl ?_ | refine zbq rfl rfl ?_ | refine zbu rfl ?_ | refine zao rfl ?_ | refine zav rfl rfl ?_ | refine zap rfl rfl rfl rfl ?_ | refine zam rfl rfl rfl rfl rfl rfl rfl ?_ | refine za7 rfl ?_ | refine zae rfl rfl rfl ?_ | refine za0 rfl rfl rfl ?_ | refine zab rfl rfl rfl rfl ?_ | refine zaq ?_ | refine zaj rfl rfl ?_ | refine zac rfl rfl ?_ | refine zbs rfl rfl ?_ | refine zbf rfl rfl ?_ | refine zay rfl rfl ?_ | refine zad rfl rfl ?_ | refine zbd rfl rfl ?_ | refine zaa rfl rfl rfl ?_ | refine zau rfl rfl ?_ | refine zah rfl rfl rfl rfl ?_ | refine za8 rfl rfl rfl rfl ?_ | refine zag rfl rfl rfl rfl ?_ | refine zb8 rfl rfl ?_ | refine zb5 rfl rfl ?_ | refine za9 rfl rfl ?_ | refine zb9 ?_ | refine zai env0_ok rfl rfl rfl ?_ | refine zas (op := .add) rfl rfl rfl ?_ | refine zas (op := .sub) rfl rfl rfl ?_ | refine zb7 rfl rfl rfl ?_ | refine zb6 rfl rfl rfl ?_ | refine zb3 rfl rfl rfl ?_ | refine zaz rfl rfl rfl ?_ | refine zb4 rfl rfl (by omega) (by assumption) rfl ?_ | refine za0 rfl rfl (decide_eq_true ⟨by omega, by omega⟩) ?_ | refine zax rfl rfl (by omega) (by omega) ?_ | refine zaf rfl rfl rfl ?_ | refine zbb rfl ?_ | refine zba rfl ?_)
  refine zar ?_
  repeat (first | refine za1 rfl ?_ | refine zak ?_ | refine zal ?_ | refine zbe ?_ | refine zan ?_ | refine zaw ?_ | refine zbj rfl ?_ | refine zbk rfl ?_ | refine zb2 ?_ | refine zb0 ?_ | refine zb1 ?_ | refine za4 ?_ | refine za2 rfl ?_ | refine za3 ?_ | refine za5 ?_ | refine zbn rfl ?_ | refine zbq rfl rfl ?_ | refine zbu rfl ?_ | refine zao rfl ?_ | refine zav rfl rfl ?_ | refine zap rfl rfl rfl rfl ?_ | refine zam rfl rfl rfl rfl rfl rfl rfl ?_ | refine za7 rfl ?_ | refine zae rfl rfl rfl ?_ | refine za0 rfl rfl rfl ?_ | refine zab rfl rfl rfl rfl ?_ | refine zaq ?_ | refine zaj rfl rfl ?_ | refine zac rfl rfl ?_ | refine zbs rfl rfl ?_ | refine zbf rfl rfl ?_ | refine zay rfl rfl ?_ | refine zad rfl rfl ?_ | refine zbd rfl rfl ?_ | refine zaa rfl rfl rfl ?_ | refine zau rfl rfl ?_ | refine zah rfl rfl rfl rfl ?_ | refine za8 rfl rfl rfl rfl ?_ | refine zag rfl rfl rfl rfl ?_ | refine zb8 rfl rfl ?_ | refine zb5 rfl rfl ?_ | refine za9 rfl rfl ?_ | refine zb9 ?_ | refine zai env0_ok rfl rfl rfl ?_ | refine zas (op := .add) rfl rfl rfl ?_ | refine zas (op := .sub) rfl rfl rfl ?_ | refine zb7 rfl rfl rfl ?_ | refine zb6 rfl rfl rfl ?_ | refine zb3 rfl rfl rfl ?_ | refine zaz rfl rfl rfl ?_ | refine zb4 rfl rfl (by omega) (by assumption) rfl ?_ | refine za0 rfl rfl (decide_eq_true ⟨by omega, by omega⟩) ?_ | refine zax rfl rfl (by omega) (by omega) ?_ | refine zaf rfl rfl rfl ?_ | refine zbb rfl ?_ | refine zba rfl ?_)
  refine zar ?_
  repeat (first | refine za1 rfl ?_ | refine zak ?_ | refine zal ?_ | refine zbe ?_ | refine zan ?_ | refine zaw ?_ | refine zbj rfl ?_ | refine zbk rfl ?_ | refine zb2 ?_ | refine zb0 ?_ | refine zb1 ?_ | refine za4 ?_ | refine za2 rfl ?_ | refine za3 ?_ | refine za5 ?_ | refine zbn rfl ?_ | refine zbq rfl rfl ?_ | refine zbu rfl ?_ | refine zao rfl ?_ | refine zav rfl rfl ?_ | refine zap rfl rfl rfl rfl ?_ | refine zam rfl rfl rfl rfl rfl rfl rfl ?_ | refine za7 rfl ?_ | refine zae rfl rfl rfl ?_ | refine za0 rfl rfl rfl ?_ | refine zab rfl rfl rfl rfl ?_ | refine zaq ?_ | refine zaj rfl rfl ?_ | refine zac rfl rfl ?_ | refine zbs rfl rfl ?_ | refine zbf rfl rfl ?_ | refine zay rfl rfl ?_ | refine zad rfl rfl ?_ | refine zbd rfl rfl ?_ | refine zaa rfl rfl rfl ?_ | refine zau rfl rfl ?_ | refine zah rfl rfl rfl rfl ?_ | refine za8 rfl rfl rfl rfl ?_ | refine zag rfl rfl rfl rfl ?_ | refine zb8 rfl rfl ?_ | refine zb5 rfl rfl ?_ | refine za9 rfl rfl ?_ | refine zb9 ?_ | refine zai env0_ok rfl rfl rfl ?_ | refine zas (op := .add) rfl rfl rfl ?_ | refine zas (op := .sub) rfl rfl rfl ?_ | refine zb7 rfl rfl rfl ?_ | refine zb6 rfl rfl rfl ?_ | refine zb3 rfl rfl rfl ?_ | refine zaz rfl rfl rfl ?_ | refine zb4 rfl rfl (by omega) (by assumption) rfl ?_ | refine za0 rfl rfl (decide_eq_true ⟨by omega, by omega⟩) ?_ | refine zax rfl rfl (by omega) (by omega) ?_ | refine zaf rfl rfl rfl ?_ | refine zbb rfl ?_ | refine zba rfl ?_)
  refine zar ?_
  repeat (first | refine za1 rfl ?_ | refine zak ?_ | refine zal ?_ | refine zbe ?_ | refine zan ?_ | refine zaw ?_ | refine zbj rfl ?_ | refine zbk rfl ?_ | refine zb2 ?_ | refine zb0 ?_ | refine zb1 ?_ | refine za4 ?_ | refine za2 rfl ?_ | refine za3 ?_ | refine za5 ?_ | refine zbn rfl ?_ | refine zbq rfl rfl ?_ | refine zbu rfl ?_ | refine zao rfl ?_ | refine zav rfl rfl ?_ | refine zap rfl rfl rfl rfl ?_ | refine zam rfl rfl rfl rfl rfl rfl rfl ?_ | refine za7 rfl ?_ | refine zae rfl rfl rfl ?_ | refine za0 rfl rfl rfl ?_ | refine zab rfl rfl rfl rfl ?_ | refine zaq ?_ | refine zaj rfl rfl ?_ | refine zac rfl rfl ?_ | refine zbs rfl rfl ?_ | refine zbf rfl rfl ?_ | refine zay rfl rfl ?_ | refine zad rfl rfl ?_ | refine zbd rfl rfl ?_ | refine zaa rfl rfl rfl ?_ | refine zau rfl rfl ?_ | refine zah rfl rfl rfl rfl ?_ | refine za8 rfl rfl rfl rfl ?_ | refine zag rfl rfl rfl rfl ?_ | refine zb8 rfl rfl ?_ | refine zb5 rfl rfl ?_ | refine za9 rfl rfl ?_ | refine zb9 ?_ | refine zai env0_ok rfl rfl rfl ?_ | refine zas (op := .add) rfl rfl rfl ?_ | refine zas (op := .sub) rfl rfl rfl ?_ | refine zb7 rfl rfl rfl ?_ | refine zb6 rfl rfl rfl ?_ | refine zb3 rfl rfl rfl ?_ | refine zaz rfl rfl rfl ?_ | refine zb4 rfl rfl (by omega) (by assumption) rfl ?_ | refine za0 rfl rfl (decide_eq_true ⟨by omega, by omega⟩) ?_ | refine zax rfl rfl (by omega) (by omega) ?_ | refine zaf rfl rfl rfl ?_ | refine zbb rfl ?_ | refine zba rfl ?_)
  exact zpl (zbm (.cons rfl (.cons rfl .nil))) hr
 ·refine zbv env0_ok fn58 [(0, .agg (cX (.nd 4 ix args)))] (by show 1 ≤ 120; decide) rfl fun w0 N0 => ?_
  replace hr := hr w0 N0
  unfold ic58 at hr ⊢
  refine zar (za1 rfl (zbd rfl rfl (zaq (zak (zal ?_)))))
  refine zct [(some (1, 1), [.int .i64 0, .int .i64 0, .nils])] [(0, 0, cX (.nd 4 ix args))] [(1, .vptr (cX (.nd 4 ix args))), (2, .mptr 0 0 0)] rfl (.cons rfl rfl .nil) (.cons rfl (.cons (.same rfl) (.cons (.same rfl) (.cons (.same rfl) .nil))) .nil) (.cons rfl (.fptr rfl rfl) (.cons rfl (.mptr rfl) .nil)) ?_
  refine zar ?_
  repeat (first | refine za1 rfl ?_ | refine zak ?_ | refine zal ?_ | refine zbe ?_ | refine zan ?_ | refine zaw ?_ | refine zbj rfl ?_ | refine zbk rfl ?_ | refine zb2 ?_ | refine zb0 ?_ | refine zb1 ?_ | refine za4 ?_ | refine za2 rfl ?_ | refine za3 ?_ | refine za5 ?_ | refine zbn rfl ?_ | refine zbq rfl rfl ?_ | refine zbu rfl ?_ | refine zao rfl ?_ | refine zav rfl rfl ?_ | refine zap rfl rfl rfl rfl ?_ | refine zam rfl rfl rfl rfl rfl rfl rfl ?_ | refine za7 rfl ?_ | refine zae rfl rfl rfl ?_ | refine za0 rfl rfl rfl ?_ | refine zab rfl rfl rfl rfl ?_ | refine zaq ?_ | refine zaj rfl rfl ?_ | refine zac rfl rfl ?_ | refine zbs rfl rfl ?_ | refine zbf rfl rfl ?_ | refine zay rfl rfl ?_ | refine zad rfl rfl ?_ | refine zbd rfl rfl ?_ | refine zaa rfl rfl rfl ?_ | refine zau rfl rfl ?_ | refine zah rfl rfl rfl rfl ?_ | refine za8 rfl rfl rfl rfl ?_ | refine zag rfl rfl rfl rfl ?_ | refine zb8 rfl rfl ?_ | refine zb5 rfl rfl ?_ | refine za9 rfl rfl ?_ | refine zb9 ?_ | refine zai env0_ok rfl rfl rfl ?_ | refine zas (op := .add) rfl rfl rfl ?_ | refine zas (op := .sub) rfl rfl rfl ?_ | refine zb7 rfl rfl rfl ?_ | refine zb6 rfl rfl rfl ?_ | refine zb3 rfl rfl rfl ?_ | refine zaz rfl rfl rfl ?_ | refine zb4 rfl rfl (by omega) (by assumption) rfl ?_ | refine za0 rfl rfl (decide_eq_true ⟨by omega, by omega⟩) ?_ | refine zax rfl rfl (by omega) (by omega) ?_ | refine zaf rfl rfl rfl ?_ | refine zbb rfl ?_ | refine zba rfl ?_)
  refine zar ?_
  repeat (first | refine za1 rfl ?_ | refine zak ?_ | refine zal ?_ | refine zbe ?_ | refine zan ?_ | refine zaw ?_ | refine zbj rfl ?_ | refine zbk rfl ?_ | refine zb2 ?_ | refine zb0 ?_ | refine zb1 ?_ | refine za4 ?_ | refine za2 rfl ?_ | refine za3 ?_ | refine za5 ?_ | refine zbn rfl ?_ | refine zbq rfl rfl ?_ | refine zbu rfl ?_ | refine zao rfl ?_ | refine zav rfl rfl ?_ | refine zap rfl rfl rfl rfl ?_ | refine zam rfl rfl rfl rfl rfl rfl rfl ?_ | refine za7 rfl ?_ | refine zae rfl rfl rfl ?_ | refine za0 rfl rfl rfl ?_ | refine zab rfl rfl rfl rfl ?_ | refine zaq ?_ | refine zaj rfl rfl ?_ | refine zac rfl rfl ?_ | refine zbs rfl rfl ?_ | refine zbf rfl rfl ?_ | refine zay rfl rfl ?_ | refine zad rfl rfl ?_ | refine zbd rfl rfl ?_ | refine zaa rfl rfl rfl ?_ | refine zau rfl rfl ?_ | refine zah rfl rfl rfl rfl ?_ | refine za8 rfl rfl rfl rfl ?_ | refine zag rfl rfl rfl rfl ?_ | refine zb8 rfl rfl ?_ | refine zb5 rfl rfl ?_ | refine za9 rfl rfl ?_ | refine zb9 ?_ | refine zai env0_ok rfl rfl rfl ?_ | refine zas (op := .add) rfl rfl rfl ?_ | refine zas (op := .sub) rfl rfl rfl ?_ | refine zb7 rfl rfl rfl ?_ | refine zb6 rfl rfl rfl ?_ | refine zb3 rfl rfl rfl ?_ | refine zaz rfl rfl rfl ?_ | refine zb4 rfl rfl (by omega) (by assumption) rfl ?_ | refine za0 rfl rfl (decide_eq_true ⟨by omega, by omega⟩) ?_ | refine zax rfl rfl (by omega) (by omega) ?_ | refine zaf rfl rfl rfl ?_ | refine zbb rfl ?_ | refine zba rfl ?_)
  refine zar ?_
  repeat (first | refine za1 rfl ?_ | refine zak ?_ | refine zal ?_ | refine zbe ?_ | refine zan ?_ | refine zaw ?_ | refine zbj rfl ?_ | refine zbk rfl ?_ | refine zb2 ?_ | refine zb0 ?_ | refine zb1 ?_ | refine za4 ?_ | refine za2 rfl ?_ | refine za3 ?_ | refine za5 ?_ | refine zbn rfl ?_ | refine zbq rfl rfl ?_ | refine zbu rfl ?_ | refine zao rfl ?_ | refine zav rfl rfl ?_ | refine zap rfl rfl rfl rfl ?_ | refine zam rfl rfl rfl rfl rfl rfl rfl ?_ | refine za7 rfl ?_ | refine zae rfl rfl rfl ?_ | refine za0 rfl rfl rfl ?_ | refine zab rfl rfl rfl rfl ?_ | refine zaq ?_ | refine zaj rfl rfl ?_ | refine zac rfl rfl ?_ | refine zbs rfl rfl ?_ | refine zbf rfl rfl ?_ | refine zay rfl rfl ?_ | refine zad rfl rfl ?_ | refine zbd rfl rfl ?_ | refine zaa rfl rfl rfl ?_ | refine zau rfl rfl ?_ | refine zah rfl rfl rfl rfl ?_ | refine za8 rfl rfl rfl rfl ?_ | refine zag rfl rfl rfl rfl ?_ | refine zb8 rfl rfl ?_ | refine zb5 rfl rfl ?_ | refine za9 rfl rfl ?_ | refine zb9 ?_ | refine zai env0_ok rfl rfl rfl ?_ | refine zas (op := .add) rfl rfl rfl ?_ | refine zas (op := .sub) rfl rfl rfl ?_ | refine zb7 rfl rfl rfl ?_ | refine zb6 rfl rfl rfl ?_ | refine zb3 rfl rfl rfl ?_ | refine zaz rfl rfl rfl ?_ | refine zb4 rfl rfl (by omega) (by assumption) rfl ?_ | refine za0 rfl rfl (decide_eq_true ⟨by omega, by omega⟩) ?_ | refine zax rfl rfl (by omega) (by omega) ?_ | refine zaf rfl rfl rfl ?_ | refine zbb rfl ?_ | refine zba rfl ?_)
  refine zar ?_
  repeat (first | refine za1 rfl ?_ | refine zak ?_ | refine zal ?_ | refine zbe ?_ | refine zan ?_ | refine zaw ?_ | refine zbj rfl ?_ | refine zbk rfl ?_ | refine zb2 ?_ | refine zb0 ?_ | refine zb1 ?_ | refine za4 ?_ | refine za2 rfl ?_ | refine za3 ?_ | refine za5 ?_ | refine zbn rfl ?_ | refine zbq rfl rfl ?_ | refine zbu rfl ?_ | refine zao rfl ?_ | refine zav rfl rfl ?_ | refine zap rfl rfl rfl rfl ?_ | refine zam rfl rfl rfl rfl rfl rfl rfl ?_ | refine za7 rfl ?_ | refine zae rfl rfl rfl ?_ | refine za0 rfl rfl rfl ?_ | refine zab rfl rfl rfl rfl ?_ | refine zaq ?_ | refine zaj rfl rfl ?_ | refine zac rfl rfl ?_ | refine zbs rfl rfl ?_ | refine zbf rfl rfl ?_ | refine zay rfl rfl ?_ | refine zad rfl rfl ?_ | refine zbd rfl rfl ?_ | refine zaa rfl rfl rfl ?_ | refine zau rfl rfl ?_ | refine zah rfl rfl rfl rfl ?_ | refine za8 rfl rfl rfl rfl ?_ | refine zag rfl rfl rfl rfl ?_ | refine zb8 rfl rfl ?_ | refine zb5 rfl rfl ?_ | refine za9 rfl rfl ?_ | refine zb9 ?_ | refine zai env0_ok rfl rfl rfl ?_ | refine zas (op := .add) rfl rfl rfl ?_ | refine zas (op := .sub) rfl rfl rfl ?_ | refine zb7 rfl rfl rfl ?_ | refine zb6 rfl rfl rfl ?_ | refine zb3 rfl rfl rfl ?_ | refine zaz rfl rfl rfl ?_ | refine zb4 rfl rfl (by omega) (by assumption) rfl ?_ | refine za0 rfl rfl (decide_eq_true ⟨by omega, by omega⟩) ?_ | refine zax rfl rfl (by omega) (by omega) ?_ | refine zaf rfl rfl rfl ?_ | refine zbb rfl ?_ | refine zba rfl ?_)
  exact zpl (zbm (.cons rfl (.cons rfl .nil))) hr
end Go.Proofs.Ytmnkjofaodbokaa
