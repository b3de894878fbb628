/-
  THE SIMPLE FORM OF A NODE WHOSE ARGUMENTS ARE SIMPLE.; THE REFERENCE's SIMPLE FORM OF A NODE.; SIMPLE FORMS: what they are, in plain Lean.; SIMPLE FORMS: the same value, the same in the reference, simple again, no deeper, no new variable.; A LIST OF NUMBERS THAT GROWS; slices.Index, Contains, Equal.; THE LIBRARY's CONTRACTS of slices.Sort and slices.Compact, laid at this program; the same as told 
-/
import Derived.Test.YtmnkjofaodbokaaJX4
import Derived.Shelf.Sort.Plain
import Derived.Shelf.Slices.CompactI
namespace Go.Proofs.Ytmnkjofaodbokaa
open Go Go.Am
def memX (l : List Ex) (z : Ex) : Bool := l.any (eqX z)
def zdp (ne : Bool) (l : List Ex) (z : Ex) : List Ex := if (!isX z ne && !memX l z) = true then l ++ [z] else l
def zdd (op : Int) (y : Ex) : List Ex := if opX y = op then zo3 y else [y]
def zdy (op : Int) (ne : Bool) (l args : List Ex) : List Ex := args.foldl (fun l y => (zdd op y).foldl (zdp ne) l) l
def hitX (ne : Bool) (l : List Ex) (y : Ex) : Bool := isX y (!ne) || memX l (zp1 y)
def lastX (op : Int) (ne : Bool) : List Ex → Ex
 | [] => zeg ne
 | [y] => y
 | l => .nd op 0 l
def zmy (op : Int) (ne : Bool) (l : List Ex) : Ex := if l.any (hitX ne l) = true then zeg (!ne) else lastX op ne l
def zsd (ix : Int) (y : Ex) : Ex := if opX y = 0 then zeg (ixX y == 0) else if opX y = 2 then (zo3 y).headD y else .nd 2 ix [y]
def zdj : Ex → Ex
 | .nd op ix args => if op = 2 then (match args with
   | [y] => zsd ix y
   | l => .nd 2 ix l) else if op = 3 ∨ op = 4 then zmy op (op == 3) (zdy op (op == 3) [] args) else .nd op ix args
theorem zic {l : List Ex} {i : Nat} (h : i < l.length) : szL (l.drop i) = szX l[i] + szL (l.drop (i + 1)) := by
 rw [List.drop_eq_getElem_cons h, szL]
theorem zjy : ∀ l m : List Ex, szL (l ++ m) = szL l + szL m
 | [], m => by rw [List.nil_append, szL]; omega
 | x :: l, m => by rw [List.cons_append, szL, szL, zjy l m]; omega
theorem zk0 (y : Ex) : szX y = 1 + szL (zo3 y) := by cases y; rw [szX]; rfl
theorem zjz {l : List Ex} {y : Ex} (h : y ∈ l) : szX y ≤ szL l := by
 induction l with
 | nil => cases h
 | cons a l ih =>
  have := ze0 a
  have := zbr l
  rw [szL]
  rcases List.mem_cons.1 h with rfl | h
  ·omega
  ·have := ih h; omega
structure Cq (q : List Ex) (w : AV) (hp : List (Nat × Nat × AObj)) (nx : Nat) : Prop where
 res : Am.look 0 hp = some (0, .cells [.int .i64 0, .int .i64 0, .nils])
 lst : Gx 0 q w hp nx
 nx0 : 0 < nx
section
variable {q : List Ex} {w : AV} {hp : List (Nat × Nat × AObj)} {nx : Nat}
theorem Cq.fresh (h : Cq q w hp nx) (ck : Nat) (x : AObj) : Cq q w ((nx, ck, x) :: hp) (nx + 1) := by
 have h1 := h.nx0
 exact ⟨by rw [zax, if_neg (by omega)]; exact h.res, h.lst.fresh ck x, by omega⟩
theorem Cq.drop (h : Cq q w hp nx) {j : Nat} (hj : nx ≤ j) : Cq q w (zc1 j hp) nx := by
 have h1 := h.nx0
 refine ⟨by rw [zao, if_neg (by omega)]; exact h.res, ?_, h1⟩
 rcases h.lst with h2 | ⟨id, sp, e, hl, a, b⟩
 ·exact .inl h2
 ·exact .inr ⟨id, sp, e, by rw [zao, if_neg (by omega)]; exact hl, a, b⟩
theorem Cq.box (h : Cq q w hp nx) (ck : Nat) (x : AObj) (y : Nat × AObj) : Cq q w (zc1 nx (zc3 nx y ((nx, ck, x) :: hp))) (nx + 1) := by
 have h1 := h.nx0
 refine ⟨by rw [zao, if_neg (by omega), za1, if_neg (by omega), zax, if_neg (by omega)]; exact h.res, ?_, by omega⟩
 rcases h.lst with h2 | ⟨id, sp, e, hl, a, b⟩
 ·exact .inl h2
 ·exact .inr ⟨id, sp, e, by rw [zao, if_neg (by omega), za1, if_neg (by omega), zax, if_neg (by omega)]; exact hl, a, by omega⟩
theorem Cq.box1 (h : Cq q w hp nx) (ck : Nat) (x : AObj) : Cq q w (zc1 nx ((nx, ck, x) :: hp)) (nx + 1) := by
 have h1 := h.nx0
 refine ⟨by rw [zao, if_neg (by omega), zax, if_neg (by omega)]; exact h.res, ?_, by omega⟩
 rcases h.lst with h2 | ⟨id, sp, e, hl, a, b⟩
 ·exact .inl h2
 ·exact .inr ⟨id, sp, e, by rw [zao, if_neg (by omega), zax, if_neg (by omega)]; exact hl, a, by omega⟩
theorem z_cq {P : Program} {w0 : World} {N0 n ck : Nat} {k : List Fr} {Q : Exit → AS → Prop} {ic : IC} {l : List (Nat × AV)} {g a : AV} {d1 d2 d3 d4 : Nat} (hF : Cq q w hp nx) (h1 : ze9 d1 l = some g) (mg : hasM g = false) (h2 : ze9 d2 l = some (.mptr 0 0 0)) (h3 : ze9 d3 l = some a) (ma : hasM a = false) (h4 : ze9 d4 l = some w)
  (go : Zm P w0 N0 none ic (st n [(d1, g), (d2, .mptr 0 0 0), (d3, a), (d4, .vs (cXs q))] [(0, 0, .cells [.int .i64 0, .int .i64 0, .nils])] 1 1) k Q) : Zm P w0 N0 none ic (st n l hp nx ck) k Q := by
 rcases hF.lst with ⟨rfl, rfl⟩ | ⟨id, sp, rfl, hl, h5, _⟩
 ·exact zce [(some (0, 0), [.int .i64 0, .int .i64 0, .nils])] [] [(d1, g), (d2, .mptr 0 0 0), (d3, a), (d4, .vs (cXs []))] rfl .nil (.cons hF.res (.cons (.same rfl) (.cons (.same rfl) (.cons (.same rfl) .nil))) .nil) (.cons h1 (.same mg) (.cons h2 (.mptr rfl) (.cons h3 (.same ma) (.cons h4 .nilvs .nil)))) go
 ·have hok : okW [id] [(some (0, 0), [.int .i64 0, .int .i64 0, .nils])] = true := by
   show (!memN 0 [id] && true) = true
   rw [zp0 (by simp; omega)]
   rfl
  have hfz : fzl id sp [(id, sp, (cXs q).flatten)] = some (cXs q).flatten := by
   unfold fzl
   simp
  exact zce [(some (0, 0), [.int .i64 0, .int .i64 0, .nils])] [(id, sp, (cXs q).flatten)] [(d1, g), (d2, .mptr 0 0 0), (d3, a), (d4, .vs (cXs q))] hok (.cons hl (zp2 q) .nil) (.cons hF.res (.cons (.same rfl) (.cons (.same rfl) (.cons (.same rfl) .nil))) .nil) (.cons h1 (.same mg) (.cons h2 (.mptr rfl) (.cons h3 (.same ma) (.cons h4 (.fms hfz (zan q) zgl ⟨[], by rw [List.drop_zero, List.append_nil]⟩) .nil)))) go
end
def b58_3 : IC := .seq (.region [⟨(some 66), .bin .lss (.t 65) (.t 64), none⟩] none)
 (.seq (.cond (.t 66) (.skip)
 (.exit 3))
 (.seq (.block 4 (.seq (.region [⟨(some 67), .idxs 3 (.t 63) (.t 65), none⟩,
  ⟨(some 68), .load (some 3) (.t 67), none⟩,
  ⟨(some 10), .alloc [.int .i64 0, .int .i64 0, .nils], none⟩,
  ⟨none, .store 3 (.t 10) (.t 68), none⟩] none)
 (.seq (.region [⟨(some 69), .load (some 3) (.t 10), none⟩,
  ⟨(some 70), .mov (.t 4), none⟩,
  ⟨(some 71), .call (.c (.fn 85 [] [])) [(.t 69), (.t 70)], none⟩,
  ⟨(some 72), .un .not (.t 71), none⟩,
  ⟨(some 73), .mov (.t 72), none⟩,
  ⟨(some 74), .mov (.t 5), some (73, true)⟩,
  ⟨(some 75), .load (some 3) (.t 10), some (73, true)⟩,
  ⟨(some 76), .call (.c (.fn 86 [] [])) [(.t 74), (.t 75)], some (73, true)⟩,
  ⟨(some 77), .un .not (.t 76), some (73, true)⟩,
  ⟨(some 78), .pick (.t 73) (.t 77) (.c (.bool false)), none⟩] none)
 (.cond (.t 78) (.region [⟨(some 79), .mov (.t 5), none⟩,
  ⟨(some 80), .load (some 3) (.t 10), none⟩,
  ⟨(some 81), .bslice 3 1 [.int .i64 0, .int .i64 0, .nils] [(0, 3, (.t 80))], none⟩,
  ⟨(some 82), .append 3 40 [.int .i64 0, .int .i64 0, .nils] (.t 79) (.t 81), none⟩,
  ⟨(some 5), .mov (.t 82), none⟩] none)
 (.skip)))))
 (.region [⟨(some 83), .bin .add (.t 65) (.c (.int .i64 1)), none⟩,
  ⟨(some 65), .mov (.t 83), none⟩] none)))
def b58_1 : IC := .seq (.region [⟨(some 51), .bin .lss (.t 50) (.t 49), none⟩] none)
 (.seq (.cond (.t 51) (.skip)
 (.exit 1))
 (.seq (.block 2 (.seq (.region [⟨(some 52), .idxs 3 (.t 48) (.t 50), none⟩,
  ⟨(some 53), .load (some 3) (.t 52), none⟩,
  ⟨(some 7), .alloc [.int .i64 0, .int .i64 0, .nils], none⟩,
  ⟨none, .store 3 (.t 7) (.t 53), none⟩] none)
 (.seq (.region [⟨(some 54), .load (some 3) (.t 7), none⟩,
  ⟨(some 55), .bslice 3 1 [.int .i64 0, .int .i64 0, .nils] [(0, 3, (.t 54))], none⟩,
  ⟨(some 8), .mov (.t 55), none⟩] none)
 (.seq (.seq (.region [⟨(some 56), .faddr 0 (.t 7), none⟩,
  ⟨(some 57), .load none (.t 56), none⟩,
  ⟨(some 58), .faddr 0 (.t 1), none⟩,
  ⟨(some 59), .load none (.t 58), none⟩,
  ⟨(some 60), .bin .eql (.t 57) (.t 59), none⟩] none)
 (.cond (.t 60) (.region [⟨(some 61), .faddr 2 (.t 7), none⟩,
  ⟨(some 62), .load none (.t 61), none⟩,
  ⟨(some 8), .mov (.t 62), none⟩] none)
 (.skip)))
 (.seq (.region [⟨(some 63), .mov (.t 8), none⟩,
  ⟨(some 64), .len false (.t 63), none⟩,
  ⟨(some 65), .mov (.c (.int .i64 0)), none⟩] none)
 (.block 3 (.loop b58_3)))))))
 (.region [⟨(some 84), .bin .add (.t 50) (.c (.int .i64 1)), none⟩,
  ⟨(some 50), .mov (.t 84), none⟩] none)))
def b58_5 : IC := .seq (.region [⟨(some 88), .bin .lss (.t 87) (.t 86), none⟩] none)
 (.seq (.cond (.t 88) (.skip)
 (.exit 5))
 (.seq (.block 6 (.seq (.region [⟨(some 89), .idxs 3 (.t 85) (.t 87), none⟩,
  ⟨(some 90), .load (some 3) (.t 89), none⟩,
  ⟨(some 12), .alloc [.int .i64 0, .int .i64 0, .nils], none⟩,
  ⟨none, .store 3 (.t 12) (.t 90), none⟩] none)
 (.seq (.region [⟨(some 91), .load (some 3) (.t 12), none⟩,
  ⟨(some 92), .mov (.t 4), none⟩,
  ⟨(some 93), .un .not (.t 92), none⟩,
  ⟨(some 94), .call (.c (.fn 85 [] [])) [(.t 91), (.t 93)], none⟩,
  ⟨(some 95), .mov (.t 94), none⟩,
  ⟨(some 96), .mov (.t 5), some (95, false)⟩,
  ⟨(some 97), .load (some 3) (.t 12), some (95, false)⟩,
  ⟨(some 98), .call (.c (.fn 87 [] [])) [(.t 97)], some (95, false)⟩,
  ⟨(some 99), .call (.c (.fn 86 [] [])) [(.t 96), (.t 98)], some (95, false)⟩,
  ⟨(some 100), .pick (.t 95) (.c (.bool true)) (.t 99), none⟩] none)
 (.cond (.t 100) (.seq (.region [⟨(some 101), .mov (.t 4), none⟩,
  ⟨(some 102), .un .not (.t 101), none⟩,
  ⟨(some 103), .call (.c (.fn 84 [] [])) [(.t 102)], none⟩,
  ⟨none, .store 3 (.t 2) (.t 103), none⟩] none)
 (.ret))
 (.skip)))))
 (.region [⟨(some 104), .bin .add (.t 87) (.c (.int .i64 1)), none⟩,
  ⟨(some 87), .mov (.t 104), none⟩] none)))
-- pneumatic/boolexp.merged
def ic58 : IC := .seq (.region [⟨(some 1), .box (.t 0), none⟩,
  ⟨(some 2), .alloc [.int .i64 0, .int .i64 0, .nils], none⟩] none)
 (.seq (.seq (.region [⟨(some 13), .faddr 0 (.t 1), none⟩,
  ⟨(some 14), .load none (.t 13), none⟩,
  ⟨(some 15), .bin .eql (.t 14) (.c (.int .i64 2)), none⟩] none)
 (.cond (.t 15) (.seq (.seq (.region [⟨(some 16), .faddr 2 (.t 1), none⟩,
  ⟨(some 17), .load none (.t 16), none⟩,
  ⟨(some 18), .idxs 3 (.t 17) (.c (.int .i64 0)), none⟩,
  ⟨(some 19), .load (some 3) (.t 18), none⟩,
  ⟨(some 3), .alloc [.int .i64 0, .int .i64 0, .nils], none⟩,
  ⟨none, .store 3 (.t 3) (.t 19), none⟩] none)
 (.seq (.region [⟨(some 20), .faddr 0 (.t 3), none⟩,
  ⟨(some 21), .load none (.t 20), none⟩] none)
 (.block 0 (.seq (.region [⟨(some 23), .bin .eql (.t 21) (.c (.int .i64 0)), none⟩,
  ⟨(some 22), .mov (.t 23), none⟩] none)
 (.cond (.t 22) (.seq (.region [⟨(some 24), .faddr 1 (.t 3), none⟩,
  ⟨(some 25), .load none (.t 24), none⟩,
  ⟨(some 26), .bin .eql (.t 25) (.c (.int .i64 0)), none⟩,
  ⟨(some 27), .call (.c (.fn 84 [] [])) [(.t 26)], none⟩,
  ⟨none, .store 3 (.t 2) (.t 27), none⟩] none)
 (.ret))
 (.seq (.region [⟨(some 29), .bin .eql (.t 21) (.c (.int .i64 2)), none⟩,
  ⟨(some 28), .mov (.t 29), none⟩] none)
 (.cond (.t 28) (.seq (.region [⟨(some 30), .faddr 2 (.t 3), none⟩,
  ⟨(some 31), .load none (.t 30), none⟩,
  ⟨(some 32), .idxs 3 (.t 31) (.c (.int .i64 0)), none⟩,
  ⟨(some 33), .load (some 3) (.t 32), none⟩,
  ⟨none, .store 3 (.t 2) (.t 33), none⟩] none)
 (.ret))
 (.skip))))))))
 (.seq (.region [⟨(some 34), .load (some 3) (.t 1), none⟩,
  ⟨none, .store 3 (.t 2) (.t 34), none⟩] none)
 (.ret)))
 (.skip)))
 (.seq (.seq (.region [⟨(some 35), .faddr 0 (.t 1), none⟩,
  ⟨(some 36), .load none (.t 35), none⟩,
  ⟨(some 37), .bin .neq (.t 36) (.c (.int .i64 3)), none⟩,
  ⟨(some 38), .mov (.t 37), none⟩,
  ⟨(some 39), .faddr 0 (.t 1), some (38, true)⟩,
  ⟨(some 40), .load none (.t 39), some (38, true)⟩,
  ⟨(some 41), .bin .neq (.t 40) (.c (.int .i64 4)), some (38, true)⟩,
  ⟨(some 42), .pick (.t 38) (.t 41) (.c (.bool false)), none⟩] none)
 (.cond (.t 42) (.seq (.region [⟨(some 43), .load (some 3) (.t 1), none⟩,
  ⟨none, .store 3 (.t 2) (.t 43), none⟩] none)
 (.ret))
 (.skip)))
 (.seq (.region [⟨(some 44), .faddr 0 (.t 1), none⟩,
  ⟨(some 45), .load none (.t 44), none⟩,
  ⟨(some 46), .bin .eql (.t 45) (.c (.int .i64 3)), none⟩,
  ⟨(some 4), .mov (.t 46), none⟩] none)
 (.seq (.region [⟨(some 5), .mov (.c (.nils)), none⟩] none)
 (.seq (.seq (.region [⟨(some 47), .faddr 2 (.t 1), none⟩,
  ⟨(some 48), .load none (.t 47), none⟩,
  ⟨(some 49), .len false (.t 48), none⟩,
  ⟨(some 50), .mov (.c (.int .i64 0)), none⟩] none)
 (.block 1 (.loop b58_1)))
 (.seq (.seq (.region [⟨(some 85), .mov (.t 5), none⟩,
  ⟨(some 86), .len false (.t 85), none⟩,
  ⟨(some 87), .mov (.c (.int .i64 0)), none⟩] none)
 (.block 5 (.loop b58_5)))
 (.seq (.seq (.region [⟨(some 105), .mov (.t 5), none⟩,
  ⟨(some 106), .len false (.t 105), none⟩] none)
 (.block 7 (.seq (.region [⟨(some 108), .bin .eql (.t 106) (.c (.int .i64 0)), none⟩,
  ⟨(some 107), .mov (.t 108), none⟩] none)
 (.cond (.t 107) (.seq (.region [⟨(some 109), .mov (.t 4), none⟩,
  ⟨(some 110), .call (.c (.fn 84 [] [])) [(.t 109)], none⟩,
  ⟨none, .store 3 (.t 2) (.t 110), none⟩] none)
 (.ret))
 (.seq (.region [⟨(some 112), .bin .eql (.t 106) (.c (.int .i64 1)), none⟩,
  ⟨(some 111), .mov (.t 112), none⟩] none)
 (.cond (.t 111) (.seq (.region [⟨(some 113), .mov (.t 5), none⟩,
  ⟨(some 114), .idxs 3 (.t 113) (.c (.int .i64 0)), none⟩,
  ⟨(some 115), .load (some 3) (.t 114), none⟩,
  ⟨none, .store 3 (.t 2) (.t 115), none⟩] none)
 (.ret))
 (.skip)))))))
 (.seq (.region [⟨(some 116), .faddr 0 (.t 1), none⟩,
  ⟨(some 117), .load none (.t 116), none⟩,
  ⟨(some 118), .mov (.t 5), none⟩,
  ⟨(some 119), .build [.int .i64 0, .int .i64 0, .nils] [(0, 1, (.t 117)), (2, 1, (.t 118))], none⟩,
  ⟨none, .store 3 (.t 2) (.t 119), none⟩] none)
 (.ret)))))))))
theorem fn58 : env0.fn 58 = some ⟨120, ic58, [.cell 2 (some 3)]⟩ := by kernel_rfl
theorem zki (ix : Int) (y : Ex) : zdj (.nd 2 ix [y]) = zsd ix y := by
 rw [zdj, if_pos rfl]
theorem zft {op : Int} (ix : Int) (args : List Ex) (h2 : op ≠ 2) (h3 : op ≠ 3) (h4 : op ≠ 4) : zdj (.nd op ix args) = .nd op ix args := by
 show (if op = 2 then _ else if op = 3 ∨ op = 4 then _ else _) = _
 rw [if_neg h2, if_neg (by rintro (h | h); exact h3 h; exact h4 h)]
theorem zfs {op : Int} (ix : Int) (args : List Ex) (h : op = 3 ∨ op = 4) : zdj (.nd op ix args) = zmy op (op == 3) (zdy op (op == 3) [] args) := by
 show (if op = 2 then _ else if op = 3 ∨ op = 4 then _ else _) = _
 rw [if_neg (by omega), if_pos h]
set_option maxHeartbeats 4000000 in
theorem zuw (ix : Int) (y : Ex) (hy : opX y = 2 → ∃ z r, zo3 y = z :: r) : PF Try.prog 58 [.agg (cX (.nd 2 ix [y]))] (.agg (cX (zsd ix y))) := by
 have hg0 : (cXs [y])[((0 : Int)).toNat]? = some (cX y) := rfl
 have hn : zsd ix y = if opX y = 0 then zeg (ixX y == 0) else if opX y = 2 then (zo3 y).headD y else .nd 2 ix [y] := rfl
 generalize zsd ix y = R at *
 obtain ⟨yo, yi, ya⟩ := y
 replace hn : R = if yo = 0 then zeg (yi == 0) else if yo = 2 then ya.headD (.nd yo yi ya) else .nd 2 ix [.nd yo yi ya] := hn
 replace hy : yo = 2 → ∃ z r, ya = z :: r := hy
 refine zb3 env0_ok fn58 [(0, .agg (cX (.nd 2 ix [.nd yo yi ya])))] (by show 1 ≤ 120; decide) rfl fun w0 N0 => ?_
 unfold ic58
 refine za6 (za0 rfl (zbd rfl rfl (zam (za3 (za2 ?_)))))
 refine zce [(some (1, 1), [.int .i64 0, .int .i64 0, .nils])] [(0, 0, cX (.nd 2 ix [.nd yo yi ya]))] [(1, .vptr (cX (.nd 2 ix [.nd yo yi ya]))), (2, .mptr 0 0 0)] rfl (.cons rfl rfl .nil) (.cons rfl (.cons (.same rfl) (.cons (.same rfl) (.cons (.same rfl) .nil))) .nil) (.cons rfl (.fptr rfl rfl) (.cons rfl (.mptr rfl) .nil)) ?_
 repeat (first | refine za6 ?_ | refine za0 rfl ?_ | refine za3 ?_ | refine za2 ?_ | refine zal ?_ | refine zbg rfl ?_ | refine zai rfl rfl ?_ | refine zaa rfl rfl rfl rfl ?_ | refine za8 rfl rfl rfl rfl rfl rfl rfl ?_ | refine za9 rfl ?_ | refine zap rfl rfl rfl ?_ | refine zam ?_ | refine zbe rfl rfl rfl ?_ | refine zb4 rfl rfl (by omega) (by assumption) rfl ?_)
 refine zaw rfl rfl rfl (fun h => ?_) fun h => ?_
 ·have h : yo = 0 := by simpa using h
  rw [if_pos h] at hn
  subst hn
  repeat (first | refine za6 ?_ | refine za0 rfl ?_ | refine za3 ?_ | refine za2 ?_ | refine zbg rfl ?_ | refine za4 rfl ?_ | refine zai rfl rfl ?_ | refine za9 rfl ?_)
  refine zaw rfl rfl rfl (fun h => ?_) fun h => ?_
  ·rw [h]
   refine zar rfl rfl (ziw true) (fun h => Bool.noConfusion (show false = true from h)) ?_
   repeat (first | refine za3 ?_ | refine za2 ?_ | refine zah ?_ | refine za5 ?_ | refine zad ?_ | refine za8 rfl rfl rfl rfl rfl rfl rfl ?_)
   exact zak ⟨.inr rfl, _, rfl, rfl⟩
  ·rw [h]
   refine zar rfl rfl (ziw false) (fun h => Bool.noConfusion (show false = true from h)) ?_
   repeat (first | refine za3 ?_ | refine za2 ?_ | refine zah ?_ | refine za5 ?_ | refine zad ?_ | refine za8 rfl rfl rfl rfl rfl rfl rfl ?_)
   exact zak ⟨.inr rfl, _, rfl, rfl⟩
 ·have h : ¬ yo = 0 := by simpa using h
  rw [if_neg h] at hn
  repeat (first | refine za6 ?_ | refine za0 rfl ?_ | refine za3 ?_ | refine za2 ?_ | refine zbl rfl ?_ | refine za4 rfl ?_)
  refine zaw rfl rfl rfl (fun h => ?_) fun h => ?_
  ·have h : yo = 2 := by simpa using h
   rw [if_pos h] at hn
   obtain ⟨z, r, hz⟩ := hy h
   subst hz
   replace hn : R = z := hn
   subst hn
   have hg1 : (cXs (R :: r))[((0 : Int)).toNat]? = some (cX R) := rfl
   obtain ⟨zo, zi, za⟩ := R
   repeat (first | refine za6 ?_ | refine za0 rfl ?_ | refine za3 ?_ | refine za2 ?_ | refine zbg rfl ?_ | refine zah ?_ | refine za5 ?_ | refine zad ?_ | refine za4 rfl ?_ | refine zai rfl rfl ?_ | refine zaa rfl rfl rfl rfl ?_ | refine za8 rfl rfl rfl rfl rfl rfl rfl ?_ | refine za9 rfl ?_ | refine zb4 rfl rfl (by omega) (by assumption) rfl ?_)
   exact zak ⟨.inr rfl, _, rfl, rfl⟩
  ·have h : ¬ yo = 2 := by simpa using h
   rw [if_neg h] at hn
   subst hn
   repeat (first | refine za6 ?_ | refine za0 rfl ?_ | refine za3 ?_ | refine za2 ?_ | refine zbk ?_ | refine zae ?_ | refine zbl rfl ?_ | refine zah ?_ | refine za5 ?_ | refine za4 rfl ?_ | refine zaa rfl rfl rfl rfl ?_ | refine za8 rfl rfl rfl rfl rfl rfl rfl ?_)
   exact zak ⟨.inr rfl, _, rfl, rfl⟩
theorem zux {op : Int} (ix : Int) (args : List Ex) (h2 : op ≠ 2) (h3 : op ≠ 3) (h4 : op ≠ 4) : PF Try.prog 58 [.agg (cX (.nd op ix args))] (.agg (cX (.nd op ix args))) := by
 refine zb3 env0_ok fn58 [(0, .agg (cX (.nd op ix args)))] (by show 1 ≤ 120; decide) rfl fun w0 N0 => ?_
 unfold ic58
 refine za6 (za0 rfl (zbd rfl rfl (zam (za3 (za2 ?_)))))
 refine zce [(some (1, 1), [.int .i64 0, .int .i64 0, .nils])] [(0, 0, cX (.nd op ix args))] [(1, .vptr (cX (.nd op ix args))), (2, .mptr 0 0 0)] rfl (.cons rfl rfl .nil) (.cons rfl (.cons (.same rfl) (.cons (.same rfl) (.cons (.same rfl) .nil))) .nil) (.cons rfl (.fptr rfl rfl) (.cons rfl (.mptr rfl) .nil)) ?_
 repeat (first | refine za6 ?_ | refine za0 rfl ?_ | refine zai rfl rfl ?_ | refine zap rfl rfl rfl ?_)
 refine zaw rfl rfl rfl (fun h => absurd (by simpa using h) h2) fun h => ?_
 repeat (first | refine za6 ?_ | refine za0 rfl ?_ | refine za3 ?_ | refine za2 ?_ | refine zae ?_ | refine zbl rfl ?_ | refine zai rfl rfl ?_ | refine zap rfl rfl rfl ?_)
 refine zaw rfl rfl rfl (fun h => ?_) fun h => absurd (by simpa using h) h3
 repeat (first | refine zc2 rfl ?_ | refine za4 rfl ?_ | refine zai rfl rfl ?_ | refine zap rfl rfl rfl ?_)
 refine zaw rfl rfl rfl (fun h => ?_) fun h => absurd (by simpa using h) h4
 repeat (first | refine za6 ?_ | refine za0 rfl ?_ | refine za3 ?_ | refine za2 ?_ | refine zbg rfl ?_ | refine zah ?_ | refine za5 ?_ | refine zaa rfl rfl rfl rfl ?_ | refine za8 rfl rfl rfl rfl rfl rfl rfl ?_ | refine zaj rfl rfl ?_)
 exact zak ⟨.inr rfl, _, rfl, rfl⟩
def tlC : IC → IC
 | .seq _ b => b
 | x => x
abbrev postX (n : Nat) (R : Ex) (e : Exit) (S' : AS) : Prop := (e = Exit.normal ∨ e = Exit.ret) ∧ ∃ v0, S'.leave.res [RA.cell n (some 3)] = some v0 ∧ ({ size := 0, tmps := TM.nil, heap := S'.leave.heap, next := S'.leave.next, clk := S'.leave.clk, marks := [] } : AS).view VD v0 = AV.agg (cX R)
def zij (op ix : Int) (args : List Ex) (ne : Bool) (w : AV) (i : Nat) : List (Nat × AV) := [(1, .vptr (cX (.nd op ix args))), (2, .mptr 0 0 0), (4, .bool ne), (5, w), (48, .vs (cXs args)), (49, .int .i64 ((cXs args).length : Nat)), (50, .int .i64 (i : Nat))]
set_option maxHeartbeats 4000000 in
theorem zuk {w0 : World} {N0 : Nat} {ic : IC} {k : List Fr} {Q : Exit → AS → Prop} {op ix : Int} {args : List Ex} {ne : Bool} {i : Nat} {l P : List Ex} {w : AV} {hp : List (Nat × Nat × AObj)} {nx ck : Nat} {ls : List (Nat × AV)} {rest : Int} (hC : Cq l w hp nx) (hs : szL l + szL P + rest ≤ 255) (h0 : 0 ≤ rest) (hk : KeepA ls ((8, .vs (cXs P)) :: zij op ix args ne w i))
  (fin : ∀ w' hp' nx' ck', Cq (P.foldl (zdp ne) l) w' hp' nx' → szL (P.foldl (zdp ne) l) + rest ≤ 255 → Zm Try.prog w0 N0 none ic (st 120 (zij op ix args ne w' i) hp' nx' ck') k Q) :
  Zm Try.prog w0 N0 none (.seq (.region [⟨(some 63), .mov (.t 8), none⟩, ⟨(some 64), .len false (.t 63), none⟩, ⟨(some 65), .mov (.c (.int .i64 0)), none⟩] none) (.block 3 (.loop b58_3))) (st 120 ls hp nx ck) (.blk 2 :: .seq ic :: k) Q := by
 refine zny (zat hk) ?_
 have hcl := zan P
 have hpl := zbx P
 have hln := zbr l
 have hP255 : P.length ≤ 255 := by omega
 unfold zij at *
 repeat (first | refine za6 ?_ | refine za0 rfl ?_ | refine za3 ?_ | refine za2 ?_ | refine zal ?_ | refine za4 rfl ?_ | refine zbf rfl rfl ?_)
 refine zd9 (fun mm S => ∃ j l1 w hp nx ck, mm = P.length - j ∧ j ≤ P.length ∧ Cq l1 w hp nx ∧ (P.drop j).foldl (zdp ne) l1 = P.foldl (zdp ne) l ∧ szL l1 + szL (P.drop j) + rest ≤ 255 ∧
   S = st 120 [(1, .vptr (cX (.nd op ix args))), (2, .mptr 0 0 0), (4, .bool ne), (5, w), (48, .vs (cXs args)), (49, .int .i64 ((cXs args).length : Nat)), (50, .int .i64 (i : Nat)), (63, .vs (cXs P)), (64, .int .i64 ((cXs P).length : Nat)), (65, .int .i64 (j : Nat))] hp nx ck) P.length
  (zat (.cons rfl (.cons rfl (.cons rfl (.cons rfl (.cons rfl (.cons rfl (.cons rfl (.cons rfl (.cons rfl (.cons rfl .nil))))))))))) ⟨0, l, w, _, _, _, rfl, Nat.zero_le _, hC, rfl, by rw [List.drop_zero]; exact hs, rfl⟩ ?_
 clear hC hs hk
 rintro mm S ⟨j, l1, w, hp, nx, ck, rfl, hj, hC, hg, hs, rfl⟩
 unfold b58_3
 have hl1 := zbx l1
 have hn1 := zbr (P.drop j)
 repeat (first | refine za6 ?_ | refine za0 rfl ?_)
 refine zaw rfl rfl rfl (fun h3 => ?_) fun h3 => ?_
 ·have hlt : j < P.length := by
   have h4 : ((j : Nat) : Int) < (((cXs P).length : Nat) : Int) := of_decide_eq_true h3
   omega
  have w1 : IntKind.wrap .i64 (((j : Nat) : Int) + 1) = ((j + 1 : Nat) : Int) := zbo j (by omega)
  have hge := zcg hlt
  rw [zic hlt] at hs hn1
  rw [List.drop_eq_getElem_cons hlt] at hg
  have hn2 := zbr (P.drop (j + 1))
  generalize P[j] = y at *
  replace hg : (P.drop (j + 1)).foldl (zdp ne) (zdp ne l1 y) = P.foldl (zdp ne) l := hg
  have p85 := is85 y ne
  have p86 := zss l1 y (by omega) (by omega)
  have hpu : zdp ne l1 y = if (!isX y ne && !l1.any (eqX y)) = true then l1 ++ [y] else l1 := rfl
  generalize zdp ne l1 y = l2 at *
  generalize isX y ne = b1 at *
  generalize l1.any (eqX y) = b2 at *
  have hsy : szL (l1 ++ [y]) = szL l1 + szX y := by rw [zjy, szL, szL]; omega
  have hpy := ze0 y
  generalize szX y = sy at *
  obtain ⟨yo, yi, ya⟩ := y
  repeat (first | refine za6 ?_ | refine za0 rfl ?_ | refine za3 ?_ | refine za2 ?_ | refine zal ?_ | refine zae ?_ | refine zbg rfl ?_ | refine zaa rfl rfl rfl rfl ?_ | refine zam ?_ | refine zb4 rfl rfl (by omega) (by assumption) rfl ?_)
  refine za8 (id := nx) (sp := ck) (off := 0) rfl rfl rfl rfl zbs rfl rfl ?_
  refine za3 (za2 ?_)
  refine zg0 nx ck (cs := cX (.nd yo yi ya)) (l' := [(1, .vptr (cX (.nd op ix args))), (2, .mptr 0 0 0), (4, .bool ne), (5, w), (48, .vs (cXs args)), (49, .int .i64 ((cXs args).length : Nat)), (50, .int .i64 (i : Nat)), (63, .vs (cXs P)), (64, .int .i64 ((cXs P).length : Nat)), (65, .int .i64 (j : Nat)), (10, .vptr (cX (.nd yo yi ya)))]) (by rw [za1, if_pos rfl]; rfl) rfl (.cons rfl .same (.cons rfl .same (.cons rfl .same (.cons rfl .same (.cons rfl .same (.cons rfl .same (.cons rfl .same (.cons rfl .same (.cons rfl .same (.cons rfl .same (.cons rfl (.fptr rfl) .nil))))))))))) ?_
  have hC2 := hC.box ck (.cells [.int .i64 0, .int .i64 0, .nils]) (ck, .cells (setAt 0 [.int .i64 0, .int .i64 0, .nils] (List.take 3 (cX (.nd yo yi ya)))))
  generalize zc1 nx (zc3 nx (ck, AObj.cells (setAt 0 [.int .i64 0, .int .i64 0, .nils] (List.take 3 (cX (.nd yo yi ya))))) ((nx, ck, AObj.cells [.int .i64 0, .int .i64 0, .nils]) :: hp)) = hp2 at *
  repeat (first | refine za6 ?_ | refine za0 rfl ?_ | refine za4 rfl ?_ | refine zaa rfl rfl rfl rfl ?_)
  refine zar rfl rfl p85 (fun h => Bool.noConfusion (show false = true from h)) ?_
  cases b1 with
  | true =>
   have e : l2 = l1 := hpu
   subst e
   repeat (first | refine za0 rfl ?_ | refine za3 ?_ | refine za2 ?_ | refine zbk ?_ | refine zae ?_ | refine zbl rfl ?_ | refine zcv rfl rfl ?_ | refine za4 rfl ?_ | refine zac rfl rfl ?_ | refine zd2 rfl rfl ?_ | refine zaz (op := .add) rfl rfl rfl ?_)
   rw [w1]
   exact zbz (show P.length - (j + 1) < P.length - j by omega) (zat (.cons rfl (.cons rfl (.cons rfl (.cons rfl (.cons rfl (.cons rfl (.cons rfl (.cons rfl (.cons rfl (.cons rfl .nil))))))))))) ⟨j + 1, _, w, _, _, _, rfl, hlt, hC2, hg, by omega, rfl⟩
  | false =>
   repeat (first | refine zc2 rfl ?_ | refine za4 rfl ?_ | refine zaa rfl rfl rfl rfl ?_ | refine zd2 rfl rfl ?_)
   refine zar rfl (zjq (hC2.lst.view (d := 7)) rfl) p86 (fun _ => rfl) ?_
   cases b2 with
   | true =>
    have e : l2 = l1 := hpu
    subst e
    repeat (first | refine za0 rfl ?_ | refine za3 ?_ | refine za2 ?_ | refine zbk ?_ | refine zae ?_ | refine zbl rfl ?_ | refine zc2 rfl ?_ | refine za4 rfl ?_ | refine zaj rfl rfl ?_ | refine zd2 rfl rfl ?_ | refine zaz (op := .add) rfl rfl rfl ?_)
    rw [w1]
    exact zbz (show P.length - (j + 1) < P.length - j by omega) (zat (.cons rfl (.cons rfl (.cons rfl (.cons rfl (.cons rfl (.cons rfl (.cons rfl (.cons rfl (.cons rfl (.cons rfl .nil))))))))))) ⟨j + 1, _, w, _, _, _, rfl, hlt, hC2, hg, by omega, rfl⟩
   | false =>
    have e : l2 = l1 ++ [.nd yo yi ya] := hpu
    subst e
    repeat (first | refine za0 rfl ?_ | refine za3 ?_ | refine za2 ?_ | refine zbg rfl ?_ | refine zc2 rfl ?_ | refine za4 rfl ?_ | refine zaa rfl rfl rfl rfl ?_ | refine zaj rfl rfl ?_ | refine zd2 rfl rfl ?_ | refine zav rfl rfl ?_)
    refine zng (x0 := .nd yo yi ya) (fun _ => rfl) (hC2.fresh _ (.cells (cX (.nd yo yi ya)))).lst (hC2.fresh ck (.cells [])).nx0 (by omega) rfl rfl zbs (by decide) fun w' hp' nx' ck' hG hb hk => ?_
    repeat (first | refine za0 rfl ?_ | refine za3 ?_ | refine za2 ?_ | refine zbk ?_ | refine za4 rfl ?_ | refine zaz (op := .add) rfl rfl rfl ?_)
    rw [w1]
    exact zbz (show P.length - (j + 1) < P.length - j by omega) (zat (.cons rfl (.cons rfl (.cons rfl (.cons rfl (.cons rfl (.cons rfl (.cons rfl (.cons rfl (.cons rfl (.cons rfl .nil))))))))))) ⟨j + 1, _, w', _, _, _, rfl, hlt, ⟨by rw [hk 0 (by decide)]; exact (hC2.fresh _ _).res, hG, hb⟩, hg, by omega, rfl⟩
 ·have hie : j = P.length := by
   have h4 : ¬ ((j : Nat) : Int) < (((cXs P).length : Nat) : Int) := of_decide_eq_false h3
   omega
  subst hie
  rw [List.drop_length] at hg hs
  rw [szL] at hs
  replace hg : l1 = P.foldl (zdp ne) l := hg
  repeat (first | refine zbl rfl ?_ | refine za3 ?_ | refine za2 ?_ | refine za6 ?_ | refine zb8 ?_ | refine zaf ?_)
  subst hg
  exact zdq (zb7 (zbk (za2 (zny (zat (.cons rfl (.cons rfl (.cons rfl (.cons rfl (.cons rfl (.cons rfl (.cons rfl .nil)))))))) (fin _ _ _ _ hC (by omega))))))
set_option maxHeartbeats 4000000 in
theorem rest58 {w0 : World} {N0 : Nat} {op : Int} (ix : Int) (args : List Ex) (ho : op = 3 ∨ op = 4) (hsz : szL args ≤ 255) : Zm Try.prog w0 N0 none (tlC (tlC (tlC ic58))) (st 120 [(1, .vptr (cX (.nd op ix args))), (2, .mptr 0 0 0)] [(0, 0, .cells [.int .i64 0, .int .i64 0, .nils])] 1 1) [] (postX 2 (zmy op (op == 3) (zdy op (op == 3) [] args))) := by
 have hcl := zan args
 have hll := zbx args
 have hne : Am.binOp .eql (.int .i64 op) (.int .i64 3) = some (.bool (op == 3)) := rfl
 generalize (op == 3) = ne at *
 generalize hG : zdy op ne [] args = G
 show Zm _ _ _ _ (.seq _ _) _ _ _
 repeat (first | refine za6 ?_ | refine za0 rfl ?_ | refine zai rfl rfl ?_ | refine zap rfl rfl rfl ?_)
 refine zaz rfl rfl hne ?_
 repeat (first | refine za6 ?_ | refine za0 rfl ?_ | refine za3 ?_ | refine za2 ?_ | refine zal ?_ | refine za4 rfl ?_ | refine zai rfl rfl ?_ | refine zap rfl rfl rfl ?_ | refine zbf rfl rfl ?_)
 refine zd9 (fun mm S => ∃ i l w hp nx ck, mm = args.length - i ∧ i ≤ args.length ∧ Cq l w hp nx ∧ zdy op ne l (args.drop i) = G ∧ szL l + szL (args.drop i) ≤ 255 ∧
   S = st 120 [(1, .vptr (cX (.nd op ix args))), (2, .mptr 0 0 0), (4, .bool ne), (5, w), (48, .vs (cXs args)), (49, .int .i64 ((cXs args).length : Nat)), (50, .int .i64 (i : Nat))] hp nx ck) args.length
  (zat (.cons rfl (.cons rfl (.cons rfl (.cons rfl (.cons rfl (.cons rfl (.cons rfl .nil)))))))) ⟨0, [], .nils, _, _, _, rfl, Nat.zero_le _, ⟨rfl, .inl ⟨rfl, rfl⟩, by decide⟩, hG, (by rw [List.drop_zero, szL]; omega), rfl⟩ ?_
 rintro mm S ⟨i, l, w, hp, nx, ck, rfl, hi, hC, hg, hs, rfl⟩
 unfold b58_1
 repeat (first | refine za6 ?_ | refine za0 rfl ?_)
 refine zaw rfl rfl rfl (fun h3 => ?_) fun h3 => ?_
 ·have hlt : i < args.length := by
   have h4 : ((i : Nat) : Int) < (((cXs args).length : Nat) : Int) := of_decide_eq_true h3
   omega
  have w1 : IntKind.wrap .i64 (((i : Nat) : Int) + 1) = ((i + 1 : Nat) : Int) := zbo i (by omega)
  have hge := zcg hlt
  rw [zic hlt, zk0] at hs
  rw [List.drop_eq_getElem_cons hlt] at hg
  replace hg : zdy op ne ((zdd op args[i]).foldl (zdp ne) l) (args.drop (i + 1)) = G := hg
  generalize args[i] = y at *
  have hpl : szL (zdd op y) ≤ 1 + szL (zo3 y) := by
   unfold zdd
   split
   ·omega
   ·rw [szL, szL, zk0]; omega
  generalize hP : zdd op y = P at *
  unfold zdd at hP
  have hr0 := zbr (args.drop (i + 1))
  generalize hre : szL (args.drop (i + 1)) = rest at *
  obtain ⟨yo, yi, ya⟩ := y
  repeat (first | refine za6 ?_ | refine za0 rfl ?_ | refine za3 ?_ | refine za2 ?_ | refine zal ?_ | refine zae ?_ | refine zbg rfl ?_ | refine zaa rfl rfl rfl rfl ?_ | refine zam ?_ | refine zb4 rfl rfl (by omega) (by assumption) rfl ?_)
  refine za8 (id := nx) (sp := ck) (off := 0) rfl rfl rfl rfl zbs rfl rfl ?_
  refine za3 (za2 ?_)
  refine zg0 nx ck (cs := cX (.nd yo yi ya)) (l' := (7, .vptr (cX (.nd yo yi ya))) :: zij op ix args ne w i) (by rw [za1, if_pos rfl]; rfl) rfl (.cons rfl (.fptr rfl) (.cons rfl .same (.cons rfl .same (.cons rfl .same (.cons rfl .same (.cons rfl .same (.cons rfl .same (.cons rfl .same .nil)))))))) ?_
  have hC2 := hC.box ck (.cells [.int .i64 0, .int .i64 0, .nils]) (ck, .cells (setAt 0 [.int .i64 0, .int .i64 0, .nils] (List.take 3 (cX (.nd yo yi ya)))))
  generalize zc1 nx (zc3 nx (ck, AObj.cells (setAt 0 [.int .i64 0, .int .i64 0, .nils] (List.take 3 (cX (.nd yo yi ya))))) ((nx, ck, AObj.cells [.int .i64 0, .int .i64 0, .nils]) :: hp)) = hp2 at *
  have hs2 : szL l + szL P + rest ≤ 255 := by
   have : zo3 (.nd yo yi ya) = ya := rfl
   rw [this] at *
   omega
  repeat (first | refine za6 ?_ | refine za0 rfl ?_ | refine za3 ?_ | refine za2 ?_ | refine za4 rfl ?_ | refine zai rfl rfl ?_ | refine zaa rfl rfl rfl rfl ?_ | refine zap rfl rfl rfl ?_ | refine zav rfl rfl ?_)
  refine zaw rfl rfl rfl (fun h => ?_) fun h => ?_
  ·have h : yo = op := by simpa using h
   have hP : ya = P := by rw [← hP]; exact (if_pos h).symm
   subst hP
   repeat (first | refine za0 rfl ?_ | refine za3 ?_ | refine za2 ?_ | refine zbg rfl ?_ | refine za4 rfl ?_ | refine zai rfl rfl ?_ | refine zap rfl rfl rfl ?_)
   refine zuk (hC2.fresh _ _) hs2 hr0 (.cons rfl (.cons rfl (.cons rfl (.cons rfl (.cons rfl (.cons rfl (.cons rfl (.cons rfl .nil)))))))) fun w' hp' nx' ck' hC' hs' => ?_
   unfold zij
   repeat (first | refine za0 rfl ?_ | refine za3 ?_ | refine za4 rfl ?_ | refine zaz (op := .add) rfl rfl rfl ?_)
   rw [w1]
   exact zbz (show args.length - (i + 1) < args.length - i by omega) (zat (.cons rfl (.cons rfl (.cons rfl (.cons rfl (.cons rfl (.cons rfl (.cons rfl .nil)))))))) ⟨i + 1, _, w', _, _, _, rfl, hlt, hC', hg, by rw [hre]; exact hs', rfl⟩
  ·have h : ¬ yo = op := by simpa using h
   have hP : [.nd yo yi ya] = P := by rw [← hP]; exact (if_neg h).symm
   subst hP
   repeat (first | refine za3 ?_ | refine za2 ?_ | refine zae ?_ | refine zbl rfl ?_)
   refine zg0 (nx + 1) (ck + 1) (cs := cX (.nd yo yi ya)) (l' := (8, .vs (cXs [.nd yo yi ya])) :: zij op ix args ne w i) (by rw [zax, if_pos rfl]; rfl) rfl (.cons rfl (.fms rfl zgl ⟨[], by simp [cXs]⟩) (.cons rfl .same (.cons rfl .same (.cons rfl .same (.cons rfl .same (.cons rfl .same (.cons rfl .same (.cons rfl .same .nil)))))))) ?_
   refine zuk (hC2.box1 _ _) hs2 hr0 (.cons rfl (.cons rfl (.cons rfl (.cons rfl (.cons rfl (.cons rfl (.cons rfl (.cons rfl .nil)))))))) fun w' hp' nx' ck' hC' hs' => ?_
   unfold zij
   repeat (first | refine za0 rfl ?_ | refine za3 ?_ | refine za4 rfl ?_ | refine zaz (op := .add) rfl rfl rfl ?_)
   rw [w1]
   exact zbz (show args.length - (i + 1) < args.length - i by omega) (zat (.cons rfl (.cons rfl (.cons rfl (.cons rfl (.cons rfl (.cons rfl (.cons rfl .nil)))))))) ⟨i + 1, _, w', _, _, _, rfl, hlt, hC', hg, by rw [hre]; exact hs', rfl⟩
 ·have hie : i = args.length := by
   have h4 : ¬ ((i : Nat) : Int) < (((cXs args).length : Nat) : Int) := of_decide_eq_false h3
   omega
  subst hie
  rw [List.drop_length] at hg hs
  replace hg : l = G := hg
  rw [szL] at hs
  subst hg
  repeat (first | refine zbl rfl ?_ | refine za3 ?_ | refine za2 ?_ | refine za6 ?_ | refine zb8 ?_ | refine zaf ?_)
  refine zdq ?_
  refine zb7 (za2 (za6 ?_))
  have hl2 := zbx l
  have hcl2 := zan l
  refine z_cq (d1 := 1) (d2 := 2) (d3 := 4) (d4 := 5) hC rfl rfl rfl rfl rfl rfl ?_
  repeat (first | refine za6 ?_ | refine za0 rfl ?_ | refine za3 ?_ | refine za2 ?_ | refine zal ?_ | refine za4 rfl ?_ | refine zbf rfl rfl ?_)
  refine zd9 (fun mm S => ∃ j hp nx ck, mm = l.length - j ∧ j ≤ l.length ∧ l.any (hitX ne l) = (l.drop j).any (hitX ne l) ∧ Am.look 0 hp = some (0, .cells [.int .i64 0, .int .i64 0, .nils]) ∧
    S = st 120 [(1, .vptr (cX (.nd op ix args))), (2, .mptr 0 0 0), (4, .bool ne), (5, .vs (cXs l)), (85, .vs (cXs l)), (86, .int .i64 ((cXs l).length : Nat)), (87, .int .i64 (j : Nat))] hp nx ck) l.length
   (zat (.cons rfl (.cons rfl (.cons rfl (.cons rfl (.cons rfl (.cons rfl (.cons rfl .nil)))))))) ⟨0, _, _, _, rfl, Nat.zero_le _, rfl, rfl, rfl⟩ ?_
  rintro mm S ⟨j, hp, nx, ck, rfl, hj, hany, h0, rfl⟩
  refine zce [(some (0, 0), [.int .i64 0, .int .i64 0, .nils])] [] [(1, .vptr (cX (.nd op ix args))), (2, .mptr 0 0 0), (4, .bool ne), (5, .vs (cXs l)), (85, .vs (cXs l)), (86, .int .i64 ((cXs l).length : Nat)), (87, .int .i64 (j : Nat))] rfl .nil (.cons h0 (.cons (.same rfl) (.cons (.same rfl) (.cons (.same rfl) .nil))) .nil) (.cons rfl (.same rfl) (.cons rfl (.mptr rfl) (.cons rfl (.same rfl) (.cons rfl (.same rfl) (.cons rfl (.same rfl) (.cons rfl (.same rfl) (.cons rfl (.same rfl) .nil))))))) ?_
  unfold b58_5
  repeat (first | refine za6 ?_ | refine za0 rfl ?_)
  refine zaw rfl rfl rfl (fun h3 => ?_) fun h3 => ?_
  ·have hlt : j < l.length := by
    have h4 : ((j : Nat) : Int) < (((cXs l).length : Nat) : Int) := of_decide_eq_true h3
    omega
   have w1 : IntKind.wrap .i64 (((j : Nat) : Int) + 1) = ((j + 1 : Nat) : Int) := zbo j (by omega)
   have hge := zcg hlt
   have hmem := zjz (List.getElem_mem hlt)
   rw [List.drop_eq_getElem_cons hlt, List.any_cons] at hany
   generalize l[j] = y at *
   have p85 := is85 y (!ne)
   have p87 := neg87 y
   have p86 := zss l (zp1 y) (by omega) (by unfold zp1; rw [szX, szL, szL]; omega)
   have hht : hitX ne l y = (isX y (!ne) || l.any (eqX (zp1 y))) := rfl
   generalize hitX ne l y = hh at *
   generalize isX y (!ne) = b1 at *
   generalize l.any (eqX (zp1 y)) = b2 at *
   have hny : zp1 y = .nd 2 0 [y] := rfl
   rw [hny] at p86 p87
   obtain ⟨yo, yi, ya⟩ := y
   have done : hh = true → zmy op ne l = zeg (!ne) := fun h => by
    unfold zmy
    rw [if_pos (by rw [hany, h, Bool.true_or])]
   have h0' : ∀ x y : AObj × Nat, True := fun _ _ => trivial
   repeat (first | refine za6 ?_ | refine za0 rfl ?_ | refine za3 ?_ | refine za2 ?_ | refine zal ?_ | refine zae ?_ | refine zbg rfl ?_ | refine za4 rfl ?_ | refine zaa rfl rfl rfl rfl ?_ | refine za8 rfl rfl rfl rfl rfl rfl rfl ?_ | refine zam ?_ | refine zd2 rfl rfl ?_ | refine zb4 rfl rfl (by omega) (by assumption) rfl ?_)
   refine zar rfl rfl p85 (fun h => Bool.noConfusion (show false = true from h)) ?_
   cases b1 with
   | true =>
    rw [done (by rw [hht, Bool.true_or])]
    repeat (first | refine za6 ?_ | refine za0 rfl ?_ | refine za3 ?_ | refine za2 ?_ | refine zbg rfl ?_ | refine zcv rfl rfl ?_ | refine za4 rfl ?_ | refine zaj rfl rfl ?_ | refine zd2 rfl rfl ?_)
    refine zar rfl rfl (ziw (!ne)) (fun h => Bool.noConfusion (show false = true from h)) ?_
    repeat (first | refine za3 ?_ | refine za2 ?_ | refine zah ?_ | refine za5 ?_ | refine zad ?_ | refine za8 rfl rfl rfl rfl rfl rfl rfl ?_)
    exact zak ⟨.inr rfl, _, rfl, rfl⟩
   | false =>
    rw [Bool.false_or] at hht
    repeat (first | refine zc2 rfl ?_ | refine za4 rfl ?_ | refine zaa rfl rfl rfl rfl ?_)
    refine zar rfl rfl p87 (fun h => Bool.noConfusion (show false = true from h)) ?_
    repeat (first | refine zc2 rfl ?_)
    refine zar rfl rfl p86 (fun h => Bool.noConfusion (show false = true from h)) ?_
    cases b2 with
    | true =>
     rw [done hht]
     repeat (first | refine za6 ?_ | refine za0 rfl ?_ | refine za3 ?_ | refine za2 ?_ | refine zbg rfl ?_ | refine za4 rfl ?_ | refine zac rfl rfl ?_ | refine zd2 rfl rfl ?_)
     refine zar rfl rfl (ziw (!ne)) (fun h => Bool.noConfusion (show false = true from h)) ?_
     repeat (first | refine za3 ?_ | refine za2 ?_ | refine zah ?_ | refine za5 ?_ | refine zad ?_ | refine za8 rfl rfl rfl rfl rfl rfl rfl ?_)
     exact zak ⟨.inr rfl, _, rfl, rfl⟩
    | false =>
     rw [hht, Bool.false_or] at hany
     repeat (first | refine za0 rfl ?_ | refine za3 ?_ | refine za2 ?_ | refine zbk ?_ | refine zae ?_ | refine zbl rfl ?_ | refine za4 rfl ?_ | refine zac rfl rfl ?_ | refine zaz (op := .add) rfl rfl rfl ?_)
     rw [w1]
     exact zbz (show l.length - (j + 1) < l.length - j by omega) (zat (.cons rfl (.cons rfl (.cons rfl (.cons rfl (.cons rfl (.cons rfl (.cons rfl .nil)))))))) ⟨j + 1, _, _, _, rfl, hlt, hany, rfl, rfl⟩
  ·have hie : j = l.length := by
    have h4 : ¬ ((j : Nat) : Int) < (((cXs l).length : Nat) : Int) := of_decide_eq_false h3
    omega
   subst hie
   rw [List.drop_length, List.any_nil] at hany
   have hf : zmy op ne l = lastX op ne l := by
    unfold zmy
    rw [if_neg (by rw [hany]; exact Bool.false_ne_true)]
   rw [hf]
   clear hf hany hl2 hcl2 hs hC h3 hG hj h0
   match l with
   | [] =>
    repeat (first | refine za6 ?_ | refine za3 ?_ | refine za2 ?_ | refine zbl rfl ?_ | refine zb8 ?_ | refine zaf ?_)
    refine zdq ?_
    repeat (first | refine za6 ?_ | refine za0 rfl ?_ | refine za3 ?_ | refine za2 ?_ | refine zal ?_ | refine zbg rfl ?_ | refine zb7 ?_ | refine za4 rfl ?_ | refine zbf rfl rfl ?_ | refine zbe rfl rfl rfl ?_)
    refine zar rfl rfl (ziw ne) (fun h => Bool.noConfusion (show false = true from h)) ?_
    repeat (first | refine za3 ?_ | refine za2 ?_ | refine zah ?_ | refine za5 ?_ | refine zad ?_ | refine za8 rfl rfl rfl rfl rfl rfl rfl ?_)
    exact zak ⟨.inr rfl, _, rfl, rfl⟩
   | [y] =>
    have hg0 : (cXs [y])[((0 : Int)).toNat]? = some (cX y) := rfl
    obtain ⟨yo, yi, ya⟩ := y
    repeat (first | refine za6 ?_ | refine za3 ?_ | refine za2 ?_ | refine zbl rfl ?_ | refine zb8 ?_ | refine zaf ?_)
    refine zdq ?_
    repeat (first | refine za6 ?_ | refine za0 rfl ?_ | refine za3 ?_ | refine za2 ?_ | refine zal ?_ | refine zbg rfl ?_ | refine zbl rfl ?_ | refine zah ?_ | refine zb7 ?_ | refine za5 ?_ | refine zad ?_ | refine za4 rfl ?_ | refine zaa rfl rfl rfl rfl ?_ | refine za8 rfl rfl rfl rfl rfl rfl rfl ?_ | refine zbf rfl rfl ?_ | refine zbe rfl rfl rfl ?_ | refine zb5 rfl rfl rfl ?_ | refine zb4 rfl rfl (by omega) (by assumption) rfl ?_)
    exact zak ⟨.inr rfl, _, rfl, rfl⟩
   | y :: z :: r =>
    have e1 : Am.binOp .eql (.int .i64 ((cXs (y :: z :: r)).length : Nat)) (.int .i64 1) = some (.bool false) := by
     show some (AV.bool (((cXs (y :: z :: r)).length : Int) == 1)) = _
     rw [beq_eq_false_iff_ne.2 (by rw [zan]; simp; omega)]
    repeat (first | refine za6 ?_ | refine za3 ?_ | refine za2 ?_ | refine zbl rfl ?_ | refine zb8 ?_ | refine zaf ?_)
    refine zdq ?_
    repeat (first | refine za6 ?_ | refine za0 rfl ?_ | refine za3 ?_ | refine za2 ?_ | refine zbk ?_ | refine zal ?_ | refine zae ?_ | refine zbl rfl ?_ | refine zah ?_ | refine zb7 ?_ | refine za4 rfl ?_ | refine zai rfl rfl ?_ | refine za8 rfl rfl rfl rfl rfl rfl rfl ?_ | refine zap rfl rfl rfl ?_ | refine zbf rfl rfl ?_ | refine zb0 rfl rfl ?_ | refine zb5 rfl rfl rfl ?_)
    exact zak ⟨.inr rfl, _, rfl, rfl⟩
theorem zuv {op : Int} (ix : Int) (args : List Ex) (ho : op = 3 ∨ op = 4) (hsz : szL args ≤ 255) : PF Try.prog 58 [.agg (cX (.nd op ix args))] (.agg (cX (zmy op (op == 3) (zdy op (op == 3) [] args)))) := by
 have hr := fun w0 N0 => rest58 (w0 := w0) (N0 := N0) ix args ho hsz
 generalize zmy op (op == 3) (zdy op (op == 3) [] args) = R at *
 rcases ho with rfl | rfl
 ·refine zb3 env0_ok fn58 [(0, .agg (cX (.nd 3 ix args)))] (by show 1 ≤ 120; decide) rfl fun w0 N0 => ?_
  replace hr := hr w0 N0
  unfold ic58 at hr ⊢
  refine za6 (za0 rfl (zbd rfl rfl (zam (za3 (za2 ?_)))))
  refine zce [(some (1, 1), [.int .i64 0, .int .i64 0, .nils])] [(0, 0, cX (.nd 3 ix args))] [(1, .vptr (cX (.nd 3 ix args))), (2, .mptr 0 0 0)] rfl (.cons rfl rfl .nil) (.cons rfl (.cons (.same rfl) (.cons (.same rfl) (.cons (.same rfl) .nil))) .nil) (.cons rfl (.fptr rfl rfl) (.cons rfl (.mptr rfl) .nil)) ?_
  refine za6 ?_
  refine za6 ?_
  repeat (first | refine za0 rfl ?_ | refine za3 ?_ | refine za2 ?_ | refine zae ?_ | refine zbl rfl ?_ | refine zai rfl rfl ?_ | refine zap rfl rfl rfl ?_ | refine zb5 rfl rfl rfl ?_)
  refine za6 ?_
  refine za6 ?_
  repeat (first | refine za0 rfl ?_ | refine za3 ?_ | refine za2 ?_ | refine zae ?_ | refine zbl rfl ?_ | refine zcv rfl rfl ?_ | refine za4 rfl ?_ | refine zai rfl rfl ?_ | refine zap rfl rfl rfl ?_ | refine zac rfl rfl ?_ | refine zb5 rfl rfl rfl ?_)
  exact zny (zat (.cons rfl (.cons rfl .nil))) hr
 ·refine zb3 env0_ok fn58 [(0, .agg (cX (.nd 4 ix args)))] (by show 1 ≤ 120; decide) rfl fun w0 N0 => ?_
  replace hr := hr w0 N0
  unfold ic58 at hr ⊢
  refine za6 (za0 rfl (zbd rfl rfl (zam (za3 (za2 ?_)))))
  refine zce [(some (1, 1), [.int .i64 0, .int .i64 0, .nils])] [(0, 0, cX (.nd 4 ix args))] [(1, .vptr (cX (.nd 4 ix args))), (2, .mptr 0 0 0)] rfl (.cons rfl rfl .nil) (.cons rfl (.cons (.same rfl) (.cons (.same rfl) (.cons (.same rfl) .nil))) .nil) (.cons rfl (.fptr rfl rfl) (.cons rfl (.mptr rfl) .nil)) ?_
  refine za6 ?_
  refine za6 ?_
  repeat (first | refine za0 rfl ?_ | refine za3 ?_ | refine za2 ?_ | refine zae ?_ | refine zbl rfl ?_ | refine zai rfl rfl ?_ | refine zap rfl rfl rfl ?_ | refine zb5 rfl rfl rfl ?_)
  refine za6 ?_
  refine za6 ?_
  repeat (first | refine za0 rfl ?_ | refine za3 ?_ | refine za2 ?_ | refine zae ?_ | refine zbl rfl ?_ | refine zc2 rfl ?_ | refine za4 rfl ?_ | refine zai rfl rfl ?_ | refine zap rfl rfl rfl ?_ | refine zaj rfl rfl ?_ | refine zbe rfl rfl rfl ?_ | refine zb5 rfl rfl rfl ?_)
  exact zny (zat (.cons rfl (.cons rfl .nil))) hr
end Go.Proofs.Ytmnkjofaodbokaa
namespace Go.Proofs.Ytmnkjofaodbokaa
open Go Go.Am
theorem zvt : ∀ {x : Ex}, Thin x → Slim x := by
 intro x h
 induction h with
 | nd h k ih => exact .nd (by omega) ih
theorem zet {x : Ex} (h : szX x ≤ 256) : Slim x := zvt (zpd x h)
def memR (l : List Ex) (z : Ex) : Bool := l.any fun y => eqX y z
def zff (ne : Bool) (l : List Ex) (z : Ex) : List Ex := if (!eqX z (zeg ne) && !memR l z) = true then l ++ [z] else l
def zrh (op : Int) (ne : Bool) (l args : List Ex) : List Ex := args.foldl (fun l y => (zdd op y).foldl (zff ne) l) l
def hitR (l : List Ex) (y : Ex) : Bool := opX y == 0 || memR l (zp1 y)
def finR (op : Int) (ne no : Bool) (l : List Ex) : Ex := if l.any (hitR l) = true then zeg no else lastX op ne l
def zrk (op : Int) (args : List Ex) : Ex := finR op (op == 3) (op == 4) (zrh op (op == 3) [] args)
def b89_2 : IC := .seq (.seq (.region [⟨(some 37), .mov (.t 9), none⟩,
  ⟨(some 38), .mov (.t 8), none⟩,
  ⟨(some 39), .len false (.t 38), none⟩,
  ⟨(some 40), .bin .lss (.t 37) (.t 39), none⟩] none)
 (.cond (.t 40) (.skip)
 (.exit 2)))
 (.seq (.block 3 (.seq (.region [⟨(some 43), .mov (.t 8), none⟩,
  ⟨(some 44), .mov (.t 9), none⟩,
  ⟨(some 45), .idxs 3 (.t 43) (.t 44), none⟩,
  ⟨(some 46), .load (some 3) (.t 45), none⟩,
  ⟨(some 47), .load (some 3) (.t 5), none⟩,
  ⟨(some 48), .call (.c (.fn 49 [] [])) [(.t 46), (.t 47)], none⟩,
  ⟨(some 49), .un .not (.t 48), none⟩,
  ⟨(some 50), .mov (.t 49), none⟩,
  ⟨(some 51), .mov (.t 6), some (50, true)⟩,
  ⟨(some 52), .mov (.t 8), some (50, true)⟩,
  ⟨(some 53), .mov (.t 9), some (50, true)⟩,
  ⟨(some 54), .idxs 3 (.t 52) (.t 53), some (50, true)⟩,
  ⟨(some 55), .load (some 3) (.t 54), some (50, true)⟩,
  ⟨(some 56), .call (.c (.fn 105 [] [])) [(.t 51), (.t 55)], some (50, true)⟩,
  ⟨(some 57), .un .not (.t 56), some (50, true)⟩,
  ⟨(some 58), .pick (.t 50) (.t 57) (.c (.bool false)), none⟩] (some [[], [], [0, 1], [2], [], [3, 4], [5], [6, 5], [7], [7], [7], [9, 10, 7], [11, 7], [8, 12, 7, 7], [13, 7], [7, 14]]))
 (.cond (.t 58) (.region [⟨(some 59), .mov (.t 6), none⟩,
  ⟨(some 60), .mov (.t 8), none⟩,
  ⟨(some 61), .mov (.t 9), none⟩,
  ⟨(some 62), .idxs 3 (.t 60) (.t 61), none⟩,
  ⟨(some 63), .load (some 3) (.t 62), none⟩,
  ⟨(some 64), .bslice 3 1 [.int .i64 0, .int .i64 0, .nils] [(0, 3, (.t 63))], none⟩,
  ⟨(some 65), .append 3 40 [.int .i64 0, .int .i64 0, .nils] (.t 59) (.t 64), none⟩,
  ⟨(some 6), .mov (.t 65), none⟩] none)
 (.skip))))
 (.region [⟨(some 41), .mov (.t 9), none⟩,
  ⟨(some 42), .bin .add (.t 41) (.c (.int .i64 1)), none⟩,
  ⟨(some 9), .mov (.t 42), none⟩] none))
def b89_0 : IC := .seq (.seq (.region [⟨(some 14), .mov (.t 7), none⟩,
  ⟨(some 15), .mov (.t 1), none⟩,
  ⟨(some 16), .len false (.t 15), none⟩,
  ⟨(some 17), .bin .lss (.t 14) (.t 16), none⟩] none)
 (.cond (.t 17) (.skip)
 (.exit 0)))
 (.seq (.block 1 (.seq (.region [⟨(some 20), .mov (.t 1), none⟩,
  ⟨(some 21), .mov (.t 7), none⟩,
  ⟨(some 22), .idxs 3 (.t 20) (.t 21), none⟩,
  ⟨(some 23), .load (some 3) (.t 22), none⟩,
  ⟨(some 24), .bslice 3 1 [.int .i64 0, .int .i64 0, .nils] [(0, 3, (.t 23))], none⟩,
  ⟨(some 8), .mov (.t 24), none⟩] none)
 (.seq (.seq (.region [⟨(some 25), .mov (.t 1), none⟩,
  ⟨(some 26), .mov (.t 7), none⟩,
  ⟨(some 27), .idxs 3 (.t 25) (.t 26), none⟩,
  ⟨(some 28), .faddr 0 (.t 27), none⟩,
  ⟨(some 29), .load none (.t 28), none⟩,
  ⟨(some 30), .mov (.t 0), none⟩,
  ⟨(some 31), .bin .eql (.t 29) (.t 30), none⟩] none)
 (.cond (.t 31) (.region [⟨(some 32), .mov (.t 1), none⟩,
  ⟨(some 33), .mov (.t 7), none⟩,
  ⟨(some 34), .idxs 3 (.t 32) (.t 33), none⟩,
  ⟨(some 35), .faddr 2 (.t 34), none⟩,
  ⟨(some 36), .load none (.t 35), none⟩,
  ⟨(some 8), .mov (.t 36), none⟩] none)
 (.skip)))
 (.seq (.region [⟨(some 9), .mov (.c (.int .i64 0)), none⟩] none)
 (.block 2 (.loop b89_2))))))
 (.region [⟨(some 18), .mov (.t 7), none⟩,
  ⟨(some 19), .bin .add (.t 18) (.c (.int .i64 1)), none⟩,
  ⟨(some 7), .mov (.t 19), none⟩] none))
def b89_4 : IC := .seq (.seq (.region [⟨(some 66), .mov (.t 10), none⟩,
  ⟨(some 67), .mov (.t 6), none⟩,
  ⟨(some 68), .len false (.t 67), none⟩,
  ⟨(some 69), .bin .lss (.t 66) (.t 68), none⟩] none)
 (.cond (.t 69) (.skip)
 (.exit 4)))
 (.seq (.block 5 (.seq (.region [⟨(some 72), .mov (.t 6), none⟩,
  ⟨(some 73), .mov (.t 10), none⟩,
  ⟨(some 74), .idxs 3 (.t 72) (.t 73), none⟩,
  ⟨(some 75), .faddr 0 (.t 74), none⟩,
  ⟨(some 76), .load none (.t 75), none⟩,
  ⟨(some 77), .bin .eql (.t 76) (.c (.int .i64 0)), none⟩,
  ⟨(some 78), .mov (.t 77), none⟩,
  ⟨(some 79), .mov (.t 6), some (78, false)⟩,
  ⟨(some 80), .mov (.t 6), some (78, false)⟩,
  ⟨(some 81), .mov (.t 10), some (78, false)⟩,
  ⟨(some 82), .idxs 3 (.t 80) (.t 81), some (78, false)⟩,
  ⟨(some 83), .load (some 3) (.t 82), some (78, false)⟩,
  ⟨(some 84), .call (.c (.fn 88 [] [])) [(.t 83)], some (78, false)⟩,
  ⟨(some 85), .call (.c (.fn 105 [] [])) [(.t 79), (.t 84)], some (78, false)⟩,
  ⟨(some 86), .pick (.t 78) (.c (.bool true)) (.t 85), none⟩] none)
 (.cond (.t 86) (.seq (.region [⟨(some 87), .mov (.t 0), none⟩,
  ⟨(some 88), .bin .eql (.t 87) (.c (.int .i64 4)), none⟩,
  ⟨(some 89), .call (.c (.fn 39 [] [])) [(.t 88)], none⟩,
  ⟨none, .store 3 (.t 4) (.t 89), none⟩] none)
 (.ret))
 (.skip))))
 (.region [⟨(some 70), .mov (.t 10), none⟩,
  ⟨(some 71), .bin .add (.t 70) (.c (.int .i64 1)), none⟩,
  ⟨(some 10), .mov (.t 71), none⟩] none))
-- pneumatic/pneumaticref05.joined
def ic89 : IC := .seq (.region [⟨(some 4), .alloc [.int .i64 0, .int .i64 0, .nils], none⟩] none)
 (.seq (.region [⟨(some 11), .mov (.t 0), none⟩,
  ⟨(some 12), .bin .eql (.t 11) (.c (.int .i64 3)), none⟩,
  ⟨(some 13), .call (.c (.fn 39 [] [])) [(.t 12)], none⟩,
  ⟨(some 5), .alloc [.int .i64 0, .int .i64 0, .nils], none⟩,
  ⟨none, .store 3 (.t 5) (.t 13), none⟩] none)
 (.seq (.region [⟨(some 6), .mov (.c (.nils)), none⟩] none)
 (.seq (.seq (.region [⟨(some 7), .mov (.c (.int .i64 0)), none⟩] none)
 (.block 0 (.loop b89_0)))
 (.seq (.seq (.region [⟨(some 10), .mov (.c (.int .i64 0)), none⟩] none)
 (.block 4 (.loop b89_4)))
 (.seq (.seq (.region [⟨(some 90), .mov (.t 6), none⟩,
  ⟨(some 91), .len false (.t 90), none⟩,
  ⟨(some 92), .bin .eql (.t 91) (.c (.int .i64 0)), none⟩] none)
 (.cond (.t 92) (.seq (.region [⟨(some 93), .load (some 3) (.t 5), none⟩,
  ⟨none, .store 3 (.t 4) (.t 93), none⟩] none)
 (.ret))
 (.skip)))
 (.seq (.seq (.region [⟨(some 94), .mov (.t 6), none⟩,
  ⟨(some 95), .len false (.t 94), none⟩,
  ⟨(some 96), .bin .eql (.t 95) (.c (.int .i64 1)), none⟩] none)
 (.cond (.t 96) (.seq (.region [⟨(some 97), .mov (.t 6), none⟩,
  ⟨(some 98), .idxs 3 (.t 97) (.c (.int .i64 0)), none⟩,
  ⟨(some 99), .load (some 3) (.t 98), none⟩,
  ⟨none, .store 3 (.t 4) (.t 99), none⟩] none)
 (.ret))
 (.skip)))
 (.seq (.region [⟨(some 100), .mov (.t 0), none⟩,
  ⟨(some 101), .mov (.t 6), none⟩,
  ⟨(some 102), .build [.int .i64 0, .int .i64 0, .nils] [(0, 1, (.t 100)), (2, 1, (.t 101))], none⟩,
  ⟨none, .store 3 (.t 4) (.t 102), none⟩] none)
 (.ret))))))))
theorem fn89 : env0.fn 89 = some ⟨103, ic89, [.cell 4 (some 3)]⟩ := by kernel_rfl
def zk8 (op : Int) (args : List Ex) (ne : Bool) (w : AV) (i : Nat) : List (Nat × AV) := [(0, .int .i64 op), (1, .vs (cXs args)), (4, .mptr 0 0 0), (5, .vptr (cX (zeg ne))), (6, w), (7, .int .i64 (i : Nat))]
set_option maxHeartbeats 4000000 in
theorem zul {w0 : World} {N0 : Nat} {ic : IC} {k : List Fr} {Q : Exit → AS → Prop} {op : Int} {args : List Ex} {ne : Bool} {i : Nat} {l P : List Ex} {w : AV} {hp : List (Nat × Nat × AObj)} {nx ck : Nat} {ls : List (Nat × AV)} {rest : Int} (hC : Cq l w hp nx) (hs : szL l + szL P + rest ≤ 255) (h0 : 0 ≤ rest) (hk : KeepA ls ((8, .vs (cXs P)) :: zk8 op args ne w i))
  (fin : ∀ w' hp' nx' ck', Cq (P.foldl (zff ne) l) w' hp' nx' → szL (P.foldl (zff ne) l) + rest ≤ 255 → Zm Try.prog w0 N0 none ic (st 103 (zk8 op args ne w' i) hp' nx' ck') k Q) :
  Zm Try.prog w0 N0 none (.seq (.region [⟨(some 9), .mov (.c (.int .i64 0)), none⟩] none) (.block 2 (.loop b89_2))) (st 103 ls hp nx ck) (.blk 1 :: .seq ic :: k) Q := by
 refine zny (zat hk) ?_
 have hcl := zan P
 have hpl := zbx P
 have hln := zbr l
 have hP255 : P.length ≤ 255 := by omega
 unfold zk8 at *
 repeat (first | refine za6 ?_ | refine za0 rfl ?_ | refine za3 ?_ | refine za2 ?_ | refine zal ?_ | refine za4 rfl ?_)
 refine zd9 (fun mm S => ∃ j l1 w hp nx ck, mm = P.length - j ∧ j ≤ P.length ∧ Cq l1 w hp nx ∧ (P.drop j).foldl (zff ne) l1 = P.foldl (zff ne) l ∧ szL l1 + szL (P.drop j) + rest ≤ 255 ∧
   S = st 103 [(0, .int .i64 op), (1, .vs (cXs args)), (4, .mptr 0 0 0), (5, .vptr (cX (zeg ne))), (6, w), (7, .int .i64 (i : Nat)), (8, .vs (cXs P)), (9, .int .i64 (j : Nat))] hp nx ck) P.length
  (zat (.cons rfl (.cons rfl (.cons rfl (.cons rfl (.cons rfl (.cons rfl (.cons rfl (.cons rfl .nil))))))))) ⟨0, l, w, _, _, _, rfl, Nat.zero_le _, hC, rfl, by rw [List.drop_zero]; exact hs, rfl⟩ ?_
 clear hC hs hk
 rintro mm S ⟨j, l1, w, hp, nx, ck, rfl, hj, hC, hg, hs, rfl⟩
 unfold b89_2
 have hl1 := zbx l1
 have hn1 := zbr (P.drop j)
 repeat (first | refine za6 ?_ | refine za0 rfl ?_ | refine za4 rfl ?_ | refine zbf rfl rfl ?_)
 refine zaw rfl rfl rfl (fun h3 => ?_) fun h3 => ?_
 ·have hlt : j < P.length := by
   have h4 : ((j : Nat) : Int) < (((cXs P).length : Nat) : Int) := of_decide_eq_true h3
   omega
  have w1 : IntKind.wrap .i64 (((j : Nat) : Int) + 1) = ((j + 1 : Nat) : Int) := zbo j (by omega)
  have hge := zcg hlt
  rw [zic hlt] at hs hn1
  rw [List.drop_eq_getElem_cons hlt] at hg
  have hn2 := zbr (P.drop (j + 1))
  generalize P[j] = y at *
  replace hg : (P.drop (j + 1)).foldl (zff ne) (zff ne l1 y) = P.foldl (zff ne) l := hg
  have p49 := zof _ y (zeg ne) (Nat.le_refl _) (zet (by omega))
  have p105 := zpl l1 y (by omega) (fun u hu => zet (by have := zjz hu; omega))
  have hpu : zff ne l1 y = if (!eqX y (zeg ne) && !l1.any fun u => eqX u y) = true then l1 ++ [y] else l1 := rfl
  generalize zff ne l1 y = l2 at *
  generalize eqX y (zeg ne) = b1 at *
  generalize (l1.any fun u => eqX u y) = b2 at *
  have hsy : szL (l1 ++ [y]) = szL l1 + szX y := by rw [zjy, szL, szL]; omega
  have hpy := ze0 y
  generalize szX y = sy at *
  obtain ⟨yo, yi, ya⟩ := y
  repeat (first | refine za6 ?_ | refine za3 ?_ | refine za2 ?_ | refine zal ?_ | refine zae ?_ | refine zbg rfl ?_)
  refine zev env0_ok [(49, [.agg (cX (.nd yo yi ya)), .agg (cX (zeg ne))], .bool b1), (105, [.vs (cXs l1), .agg (cX (.nd yo yi ya))], .bool b2)] (fun x hx => by
   rcases List.mem_cons.1 hx with rfl | hx
   ·exact p49
   obtain rfl := List.mem_singleton.1 hx
   exact p105) (fun f => Nat.beq f 49 || Nat.beq f 105) rfl rfl rfl ?_
  repeat (first | refine za4 rfl ?_ | refine zaa rfl rfl rfl rfl ?_ | refine zb4 rfl rfl (by omega) (by assumption) rfl ?_)
  refine zar rfl rfl zci (fun h => Bool.noConfusion (show false = true from h)) ?_
  cases b1 with
  | true =>
   have e : l2 = l1 := hpu
   subst e
   repeat (first | refine za0 rfl ?_ | refine za3 ?_ | refine za2 ?_ | refine zbk ?_ | refine zae ?_ | refine zbl rfl ?_ | refine zcv rfl rfl ?_ | refine za4 rfl ?_ | refine zac rfl rfl ?_ | refine zd2 rfl rfl ?_ | refine zaz (op := .add) rfl rfl rfl ?_)
   rw [w1]
   exact zbz (show P.length - (j + 1) < P.length - j by omega) (zat (.cons rfl (.cons rfl (.cons rfl (.cons rfl (.cons rfl (.cons rfl (.cons rfl (.cons rfl .nil))))))))) ⟨j + 1, _, w, _, _, _, rfl, hlt, hC, hg, by omega, rfl⟩
  | false =>
   repeat (first | refine zc2 rfl ?_ | refine za4 rfl ?_ | refine zaa rfl rfl rfl rfl ?_ | refine zd2 rfl rfl ?_ | refine zb4 rfl rfl (by omega) (by assumption) rfl ?_)
   refine zar rfl (zjq (hC.lst.view (d := 7)) rfl) (zox (by decide) zci) (fun _ => rfl) ?_
   cases b2 with
   | true =>
    have e : l2 = l1 := hpu
    subst e
    repeat (first | refine za0 rfl ?_ | refine za3 ?_ | refine za2 ?_ | refine zbk ?_ | refine zae ?_ | refine zbl rfl ?_ | refine zc2 rfl ?_ | refine za4 rfl ?_ | refine zaj rfl rfl ?_ | refine zd2 rfl rfl ?_ | refine zaz (op := .add) rfl rfl rfl ?_)
    rw [w1]
    exact zbz (show P.length - (j + 1) < P.length - j by omega) (zat (.cons rfl (.cons rfl (.cons rfl (.cons rfl (.cons rfl (.cons rfl (.cons rfl (.cons rfl .nil))))))))) ⟨j + 1, _, w, _, _, _, rfl, hlt, hC, hg, by omega, rfl⟩
   | false =>
    have e : l2 = l1 ++ [.nd yo yi ya] := hpu
    subst e
    repeat (first | refine za0 rfl ?_ | refine za3 ?_ | refine za2 ?_ | refine zbg rfl ?_ | refine zc2 rfl ?_ | refine za4 rfl ?_ | refine zaa rfl rfl rfl rfl ?_ | refine zaj rfl rfl ?_ | refine zd2 rfl rfl ?_ | refine zav rfl rfl ?_ | refine zb4 rfl rfl (by omega) (by assumption) rfl ?_)
    refine zng (x0 := .nd yo yi ya) (fun _ => rfl) (hC.fresh _ (.cells (cX (.nd yo yi ya)))).lst (hC.fresh ck (.cells [])).nx0 (by omega) rfl rfl zbs (by decide) fun w' hp' nx' ck' hG hb hk => ?_
    repeat (first | refine za0 rfl ?_ | refine za3 ?_ | refine za2 ?_ | refine zbk ?_ | refine za4 rfl ?_ | refine zaz (op := .add) rfl rfl rfl ?_)
    rw [w1]
    exact zbz (show P.length - (j + 1) < P.length - j by omega) (zat (.cons rfl (.cons rfl (.cons rfl (.cons rfl (.cons rfl (.cons rfl (.cons rfl (.cons rfl .nil))))))))) ⟨j + 1, _, w', _, _, _, rfl, hlt, ⟨by rw [hk 0 (by decide)]; exact (hC.fresh _ _).res, hG, hb⟩, hg, by omega, rfl⟩
 ·have hie : j = P.length := by
   have h4 : ¬ ((j : Nat) : Int) < (((cXs P).length : Nat) : Int) := of_decide_eq_false h3
   omega
  subst hie
  rw [List.drop_length] at hg hs
  rw [szL] at hs
  replace hg : l1 = P.foldl (zff ne) l := hg
  repeat (first | refine zbl rfl ?_ | refine za3 ?_ | refine za2 ?_ | refine zb8 ?_ | refine zaf ?_)
  subst hg
  exact zdq (zb7 (zbk (za2 (zny (zat (.cons rfl (.cons rfl (.cons rfl (.cons rfl (.cons rfl (.cons rfl .nil))))))) (fin _ _ _ _ hC (by omega))))))
set_option maxHeartbeats 4000000 in
theorem joined89 (op : Int) (args : List Ex) (hsz : szL args ≤ 255) : PF Try.prog 89 [.int .i64 op, .vs (cXs args)] (.agg (cX (zrk op args))) := by
 have hcl := zan args
 have hll := zbx args
 unfold zrk
 have hne : Am.binOp .eql (.int .i64 op) (.int .i64 3) = some (.bool (op == 3)) := rfl
 have hno : Am.binOp .eql (.int .i64 op) (.int .i64 4) = some (.bool (op == 4)) := rfl
 have p39 := zla (op == 3)
 have p39o := zla (op == 4)
 generalize (op == 3) = ne at *
 generalize (op == 4) = no at *
 generalize hG : zrh op ne [] args = G
 refine zb3 env0_ok fn89 [(0, .int .i64 op), (1, .vs (cXs args))] (by show 2 ≤ 103; decide) rfl fun w0 N0 => ?_
 unfold ic89
 repeat (first | refine za6 ?_ | refine za0 rfl ?_ | refine za3 ?_ | refine za2 ?_ | refine za4 rfl ?_ | refine zam ?_)
 refine zaz rfl rfl hne ?_
 refine zar rfl rfl p39 (fun h => Bool.noConfusion (show false = true from h)) ?_
 repeat (first | refine za6 ?_ | refine za0 rfl ?_ | refine za3 ?_ | refine za2 ?_ | refine zal ?_ | refine za4 rfl ?_ | refine za8 rfl rfl rfl rfl rfl rfl rfl ?_ | refine zam ?_)
 refine zce [(some (0, 0), [.int .i64 0, .int .i64 0, .nils])] [(1, 1, cX (zeg ne))] [(0, .int .i64 op), (1, .vs (cXs args)), (4, .mptr 0 0 0), (5, .vptr (cX (zeg ne))), (6, .nils), (7, .int .i64 0)] rfl (.cons rfl rfl .nil) (.cons rfl (.cons (.same rfl) (.cons (.same rfl) (.cons (.same rfl) .nil))) .nil) (.cons rfl (.same rfl) (.cons rfl (.same rfl) (.cons rfl (.mptr rfl) (.cons rfl (.fptr rfl rfl) (.cons rfl (.same rfl) (.cons rfl (.same rfl) .nil)))))) ?_
 refine zd9 (fun mm S => ∃ i l w hp nx ck, mm = args.length - i ∧ i ≤ args.length ∧ Cq l w hp nx ∧ zrh op ne l (args.drop i) = G ∧ szL l + szL (args.drop i) ≤ 255 ∧
   S = st 103 [(0, .int .i64 op), (1, .vs (cXs args)), (4, .mptr 0 0 0), (5, .vptr (cX (zeg ne))), (6, w), (7, .int .i64 (i : Nat))] hp nx ck) args.length
  (zat (.cons rfl (.cons rfl (.cons rfl (.cons rfl (.cons rfl (.cons rfl .nil))))))) ⟨0, [], .nils, _, _, _, rfl, Nat.zero_le _, ⟨rfl, .inl ⟨rfl, rfl⟩, by decide⟩, hG, (by rw [List.drop_zero, szL]; omega), rfl⟩ ?_
 rintro mm S ⟨i, l, w, hp, nx, ck, rfl, hi, hC, hg, hs, rfl⟩
 unfold b89_0
 repeat (first | refine za6 ?_ | refine za0 rfl ?_ | refine za4 rfl ?_ | refine zbf rfl rfl ?_)
 refine zaw rfl rfl rfl (fun h3 => ?_) fun h3 => ?_
 ·have hlt : i < args.length := by
   have h4 : ((i : Nat) : Int) < (((cXs args).length : Nat) : Int) := of_decide_eq_true h3
   omega
  have w1 : IntKind.wrap .i64 (((i : Nat) : Int) + 1) = ((i + 1 : Nat) : Int) := zbo i (by omega)
  have hge := zcg hlt
  rw [zic hlt, zk0] at hs
  rw [List.drop_eq_getElem_cons hlt] at hg
  replace hg : zrh op ne ((zdd op args[i]).foldl (zff ne) l) (args.drop (i + 1)) = G := hg
  generalize args[i] = y at *
  have hpl : szL (zdd op y) ≤ 1 + szL (zo3 y) := by
   unfold zdd
   split
   ·omega
   ·rw [szL, szL, zk0]; omega
  generalize hP : zdd op y = P at *
  unfold zdd at hP
  have hr0 := zbr (args.drop (i + 1))
  generalize hre : szL (args.drop (i + 1)) = rest at *
  obtain ⟨yo, yi, ya⟩ := y
  have hs2 : szL l + szL P + rest ≤ 255 := by
   have : zo3 (.nd yo yi ya) = ya := rfl
   rw [this] at *
   omega
  repeat (first | refine za6 ?_ | refine za0 rfl ?_ | refine za3 ?_ | refine za2 ?_ | refine zal ?_ | refine zae ?_ | refine zbg rfl ?_ | refine za4 rfl ?_ | refine zai rfl rfl ?_ | refine zaa rfl rfl rfl rfl ?_ | refine zap rfl rfl rfl ?_ | refine zav rfl rfl ?_ | refine zb4 rfl rfl (by omega) (by assumption) rfl ?_)
  refine zaw rfl rfl rfl (fun h => ?_) fun h => ?_
  ·have h : yo = op := by simpa using h
   have hP : ya = P := by rw [← hP]; exact (if_pos h).symm
   subst hP
   repeat (first | refine za0 rfl ?_ | refine za3 ?_ | refine za2 ?_ | refine zbg rfl ?_ | refine za4 rfl ?_ | refine zai rfl rfl ?_ | refine zap rfl rfl rfl ?_ | refine zb4 rfl rfl (by omega) (by assumption) rfl ?_)
   refine zul (hC.fresh _ _) hs2 hr0 (.cons rfl (.cons rfl (.cons rfl (.cons rfl (.cons rfl (.cons rfl (.cons rfl .nil))))))) fun w' hp' nx' ck' hC' hs' => ?_
   unfold zk8
   repeat (first | refine za0 rfl ?_ | refine za3 ?_ | refine za4 rfl ?_ | refine zaz (op := .add) rfl rfl rfl ?_)
   rw [w1]
   exact zbz (show args.length - (i + 1) < args.length - i by omega) (zat (.cons rfl (.cons rfl (.cons rfl (.cons rfl (.cons rfl (.cons rfl .nil))))))) ⟨i + 1, _, w', _, _, _, rfl, hlt, hC', hg, by rw [hre]; exact hs', rfl⟩
  ·have h : ¬ yo = op := by simpa using h
   have hP : [.nd yo yi ya] = P := by rw [← hP]; exact (if_neg h).symm
   subst hP
   repeat (first | refine za3 ?_ | refine za2 ?_ | refine zae ?_ | refine zbl rfl ?_)
   refine zg0 nx ck (cs := cX (.nd yo yi ya)) (l' := (8, .vs (cXs [.nd yo yi ya])) :: zk8 op args ne w i) (by rw [zax, if_pos rfl]; rfl) rfl (.cons rfl (.fms rfl zgl ⟨[], by simp [cXs]⟩) (.cons rfl .same (.cons rfl .same (.cons rfl .same (.cons rfl .same (.cons rfl .same (.cons rfl .same .nil))))))) ?_
   refine zul (hC.box1 _ _) hs2 hr0 (.cons rfl (.cons rfl (.cons rfl (.cons rfl (.cons rfl (.cons rfl (.cons rfl .nil))))))) fun w' hp' nx' ck' hC' hs' => ?_
   unfold zk8
   repeat (first | refine za0 rfl ?_ | refine za3 ?_ | refine za4 rfl ?_ | refine zaz (op := .add) rfl rfl rfl ?_)
   rw [w1]
   exact zbz (show args.length - (i + 1) < args.length - i by omega) (zat (.cons rfl (.cons rfl (.cons rfl (.cons rfl (.cons rfl (.cons rfl .nil))))))) ⟨i + 1, _, w', _, _, _, rfl, hlt, hC', hg, by rw [hre]; exact hs', rfl⟩
 ·have hie : i = args.length := by
   have h4 : ¬ ((i : Nat) : Int) < (((cXs args).length : Nat) : Int) := of_decide_eq_false h3
   omega
  subst hie
  rw [List.drop_length] at hg hs
  replace hg : l = G := hg
  rw [szL] at hs
  subst hg
  repeat (first | refine zbl rfl ?_ | refine za3 ?_ | refine za2 ?_ | refine zb8 ?_ | refine zaf ?_)
  refine zdq ?_
  refine zb7 (za2 (za6 ?_))
  have hl2 := zbx l
  have hcl2 := zan l
  refine z_cq (d1 := 0) (d2 := 4) (d3 := 5) (d4 := 6) hC rfl rfl rfl rfl rfl rfl ?_
  repeat (first | refine za6 ?_ | refine za0 rfl ?_ | refine za3 ?_ | refine za2 ?_ | refine zal ?_ | refine za4 rfl ?_)
  refine zd9 (fun mm S => ∃ j, mm = l.length - j ∧ j ≤ l.length ∧ l.any (hitR l) = (l.drop j).any (hitR l) ∧
    S = st 103 [(0, .int .i64 op), (4, .mptr 0 0 0), (5, .vptr (cX (zeg ne))), (6, .vs (cXs l)), (10, .int .i64 (j : Nat))] [(0, 0, .cells [.int .i64 0, .int .i64 0, .nils])] 1 1) l.length
   (zat (.cons rfl (.cons rfl (.cons rfl (.cons rfl (.cons rfl .nil)))))) ⟨0, rfl, Nat.zero_le _, rfl, rfl⟩ ?_
  rintro mm S ⟨j, rfl, hj, hany, rfl⟩
  unfold b89_4
  repeat (first | refine za6 ?_ | refine za0 rfl ?_ | refine za4 rfl ?_ | refine zbf rfl rfl ?_)
  refine zaw rfl rfl rfl (fun h3 => ?_) fun h3 => ?_
  ·have hlt : j < l.length := by
    have h4 : ((j : Nat) : Int) < (((cXs l).length : Nat) : Int) := of_decide_eq_true h3
    omega
   have w1 : IntKind.wrap .i64 (((j : Nat) : Int) + 1) = ((j + 1 : Nat) : Int) := zbo j (by omega)
   have hge := zcg hlt
   have hmem := zjz (List.getElem_mem hlt)
   rw [List.drop_eq_getElem_cons hlt, List.any_cons] at hany
   generalize l[j] = y at *
   have p88 := neg88 y
   have p105 := zpl l (zp1 y) (by omega) (fun u hu => zet (by have := zjz hu; omega))
   have hht : hitR l y = (opX y == 0 || l.any fun u => eqX u (zp1 y)) := rfl
   generalize hitR l y = hh at *
   generalize (l.any fun u => eqX u (zp1 y)) = b2 at *
   have hny : zp1 y = .nd 2 0 [y] := rfl
   rw [hny] at p105 p88
   obtain ⟨yo, yi, ya⟩ := y
   replace hht : hh = (yo == 0 || b2) := hht
   have done : hh = true → finR op ne no l = zeg no := fun h => by
    unfold finR
    rw [if_pos (by rw [hany, h, Bool.true_or])]
   repeat (first | refine za6 ?_ | refine za0 rfl ?_ | refine za3 ?_ | refine za2 ?_ | refine zal ?_ | refine zae ?_ | refine zbg rfl ?_ | refine za4 rfl ?_ | refine zai rfl rfl ?_ | refine zap rfl rfl rfl ?_ | refine zb4 rfl rfl (by omega) (by assumption) rfl ?_)
   refine zaw rfl rfl rfl (fun h => ?_) fun h => ?_
   ·rw [done (by rw [hht, h, Bool.true_or])]
    repeat (first | refine za6 ?_ | refine za0 rfl ?_ | refine za3 ?_ | refine za2 ?_ | refine zbg rfl ?_ | refine zcv rfl rfl ?_ | refine za4 rfl ?_ | refine zaj rfl rfl ?_)
    refine zaz rfl rfl hno ?_
    refine zar rfl rfl p39o (fun h => Bool.noConfusion (show false = true from h)) ?_
    repeat (first | refine za3 ?_ | refine za2 ?_ | refine zah ?_ | refine za5 ?_ | refine zad ?_ | refine za8 rfl rfl rfl rfl rfl rfl rfl ?_)
    exact zak ⟨.inr rfl, _, rfl, rfl⟩
   ·rw [h, Bool.false_or] at hht
    repeat (first | refine zc2 rfl ?_ | refine za4 rfl ?_ | refine zaa rfl rfl rfl rfl ?_ | refine zb4 rfl rfl (by omega) (by assumption) rfl ?_)
    refine zar rfl rfl p88 (fun h => Bool.noConfusion (show false = true from h)) ?_
    repeat (first | refine zc2 rfl ?_)
    refine zar rfl rfl p105 (fun h => Bool.noConfusion (show false = true from h)) ?_
    cases b2 with
    | true =>
     rw [done hht]
     repeat (first | refine za6 ?_ | refine za0 rfl ?_ | refine za3 ?_ | refine za2 ?_ | refine zbg rfl ?_ | refine za4 rfl ?_ | refine zac rfl rfl ?_)
     refine zaz rfl rfl hno ?_
     refine zar rfl rfl p39o (fun h => Bool.noConfusion (show false = true from h)) ?_
     repeat (first | refine za3 ?_ | refine za2 ?_ | refine zah ?_ | refine za5 ?_ | refine zad ?_ | refine za8 rfl rfl rfl rfl rfl rfl rfl ?_)
     exact zak ⟨.inr rfl, _, rfl, rfl⟩
    | false =>
     rw [hht, Bool.false_or] at hany
     repeat (first | refine za0 rfl ?_ | refine za3 ?_ | refine za2 ?_ | refine zbk ?_ | refine zae ?_ | refine zbl rfl ?_ | refine za4 rfl ?_ | refine zac rfl rfl ?_ | refine zaz (op := .add) rfl rfl rfl ?_)
     rw [w1]
     exact zbz (show l.length - (j + 1) < l.length - j by omega) (zat (.cons rfl (.cons rfl (.cons rfl (.cons rfl (.cons rfl .nil)))))) ⟨j + 1, rfl, hlt, hany, rfl⟩
  ·have hie : j = l.length := by
    have h4 : ¬ ((j : Nat) : Int) < (((cXs l).length : Nat) : Int) := of_decide_eq_false h3
    omega
   subst hie
   rw [List.drop_length, List.any_nil] at hany
   have hf : finR op ne no l = lastX op ne l := by
    unfold finR
    rw [if_neg (by rw [hany]; exact Bool.false_ne_true)]
   rw [hf]
   clear hf hany hl2 hcl2 hs hC h3 hG hj
   match l with
   | [] =>
    repeat (first | refine za3 ?_ | refine za2 ?_ | refine zbl rfl ?_ | refine zb8 ?_ | refine zaf ?_)
    refine zdq ?_
    repeat (first | refine za6 ?_ | refine za0 rfl ?_ | refine za3 ?_ | refine za2 ?_ | refine zbg rfl ?_ | refine zah ?_ | refine zb7 ?_ | refine za5 ?_ | refine za4 rfl ?_ | refine zaa rfl rfl rfl rfl ?_ | refine za8 rfl rfl rfl rfl rfl rfl rfl ?_ | refine zbf rfl rfl ?_ | refine zbe rfl rfl rfl ?_)
    exact zak ⟨.inr rfl, _, rfl, rfl⟩
   | [y] =>
    have hg0 : (cXs [y])[((0 : Int)).toNat]? = some (cX y) := rfl
    obtain ⟨yo, yi, ya⟩ := y
    repeat (first | refine za3 ?_ | refine za2 ?_ | refine zbl rfl ?_ | refine zb8 ?_ | refine zaf ?_)
    refine zdq ?_
    repeat (first | refine za6 ?_ | refine za0 rfl ?_ | refine za3 ?_ | refine za2 ?_ | refine zae ?_ | refine zbg rfl ?_ | refine zbl rfl ?_ | refine zah ?_ | refine zb7 ?_ | refine za5 ?_ | refine za4 rfl ?_ | refine zaa rfl rfl rfl rfl ?_ | refine za8 rfl rfl rfl rfl rfl rfl rfl ?_ | refine zbf rfl rfl ?_ | refine zbe rfl rfl rfl ?_ | refine zb5 rfl rfl rfl ?_ | refine zb4 rfl rfl (by omega) (by assumption) rfl ?_)
    exact zak ⟨.inr rfl, _, rfl, rfl⟩
   | y :: z :: r =>
    repeat (first | refine za3 ?_ | refine za2 ?_ | refine zbl rfl ?_ | refine zb8 ?_ | refine zaf ?_)
    refine zdq ?_
    repeat (first | refine za6 ?_ | refine za0 rfl ?_ | refine za3 ?_ | refine za2 ?_ | refine zae ?_ | refine zbl rfl ?_ | refine zah ?_ | refine zb7 ?_ | refine za4 rfl ?_ | refine za8 rfl rfl rfl rfl rfl rfl rfl ?_ | refine zbf rfl rfl ?_ | refine zb0 rfl rfl ?_ | refine zb5 rfl rfl rfl ?_)
    exact zak ⟨.inr rfl, _, rfl, rfl⟩
end Go.Proofs.Ytmnkjofaodbokaa
namespace Go.Proofs.Ytmnkjofaodbokaa
open Go Go.Am
mutual
theorem zg7 : ∀ x y : Ex, eqX x y = true ↔ x = y
 | .nd o i a, .nd o' i' b => by
  rw [eqX, Bool.and_eq_true, Bool.and_eq_true, beq_iff_eq, beq_iff_eq, zq3 a b, Ex.nd.injEq]
theorem zq3 : ∀ a b : List Ex, zk3 a b = true ↔ a = b
 | [], [] => by simp [zk3]
 | x :: xs, y :: ys => by rw [zk3, Bool.and_eq_true, zg7 x y, zq3 xs ys, List.cons.injEq]
 | [], _ :: _ => by simp [zk3]
 | _ :: _, [] => by simp [zk3]
end
theorem zm3 {l : List Ex} {z : Ex} : memX l z = true ↔ z ∈ l := by
 unfold memX
 rw [List.any_eq_true]
 constructor
 ·rintro ⟨y, hy, e⟩
  rw [(zg7 z y).1 e]; exact hy
 ·exact fun h => ⟨z, h, (zg7 z z).2 rfl⟩
theorem memR_iff {l : List Ex} {z : Ex} : memR l z = true ↔ z ∈ l := by
 unfold memR
 rw [List.any_eq_true]
 constructor
 ·rintro ⟨y, hy, e⟩
  rw [← (zg7 y z).1 e]; exact hy
 ·exact fun h => ⟨z, h, (zg7 z z).2 rfl⟩
theorem zqa (l : List Ex) (z : Ex) : memR l z = memX l z := by
 rw [Bool.eq_iff_iff, zm3, memR_iff]
theorem znf {n op ix : Int} {args : List Ex} (h : zbv op ix args.length n = 0) (k : ∀ y ∈ args, nds n y = 0) : nds n (.nd op ix args) = 0 := by
 rw [nds, if_pos h]
 clear h
 induction args with
 | nil => rw [zqd]
 | cons y ys ih => rw [zqd, if_pos (k y (List.mem_cons_self ..))]; exact ih fun z hz => k z (List.mem_cons_of_mem _ hz)
theorem zi6 {op ix k n : Int} (h0 : 0 ≤ op) (h1 : op < 5) (h2 : zbm op ≤ k) (h3 : k ≤ zcd op) (h4 : 0 ≤ ix) (h5 : ix ≤ zc4 op n) : zbv op ix k n = 0 := by
 unfold zbv
 rw [if_neg (by omega), if_neg (by omega), if_neg (by omega)]
theorem ztf (n : Int) (b : Bool) : nds n (zeg b) = 0 := by
 refine znf (zi6 (by decide) (by decide) (by decide) (by decide) ?_ ?_) fun y hy => absurd hy List.not_mem_nil
 ·cases b <;> decide
 ·cases b <;> (simp [zc4])
theorem zero_con {n : Int} {z : Ex} (h : nds n z = 0) (h0 : opX z = 0) : z = zeg (ixX z == 1) := by
 obtain ⟨o, i, a⟩ := z
 obtain rfl : o = 0 := h0
 obtain ⟨hv, _⟩ := zch h
 obtain ⟨_, _, _, h3, h4, h5⟩ := zfu hv
 have ha : a = [] := List.length_eq_zero_iff.1 (by
  have : zcd 0 = 0 := by decide
  omega)
 have hi : zc4 0 n = 1 := by simp [zc4]
 rw [hi] at h5
 subst ha
 show Ex.nd 0 i [] = zeg (i == 1)
 have : i = 0 ∨ i = 1 := by omega
 rcases this with rfl | rfl <;> rfl
theorem is_iff {n : Int} {z : Ex} (h : nds n z = 0) (b : Bool) : isX z b = true ↔ z = zeg b := by
 constructor
 ·intro e
  unfold isX at e
  obtain ⟨e0, e1⟩ := Bool.and_eq_true_iff.1 e
  have := zero_con h (beq_iff_eq.1 e0)
  rw [beq_iff_eq.1 e1] at this
  exact this
 ·rintro rfl
  cases b <;> rfl
theorem is_op {z : Ex} {b : Bool} (h : opX z ≠ 0) : isX z b = false := by
 unfold isX
 rw [beq_eq_false_iff_ne.2 h, Bool.false_and]
theorem is_zero {z : Ex} {b : Bool} (h : opX z = 0) (k : isX z b = false) : isX z (!b) = true := by
 unfold isX at *
 rw [h] at *
 revert k
 cases (ixX z == 1) <;> cases b <;> decide
theorem zja (op : Int) (ne : Bool) : ∀ (args l : List Ex), zdy op ne l args = (args.flatMap (zdd op)).foldl (zdp ne) l
 | [], l => rfl
 | y :: ys, l => by
  rw [List.flatMap_cons, List.foldl_append]
  exact zja op ne ys _
theorem zv8 (ne : Bool) (l : List Ex) (z : Ex) : (isX z ne = true ∨ z ∈ l) ∧ zdp ne l z = l ∨ isX z ne = false ∧ z ∉ l ∧ zdp ne l z = l ++ [z] := by
 unfold zdp
 by_cases h1 : isX z ne = true
 ·exact .inl ⟨.inl h1, by rw [h1]; rfl⟩
 ·have h1 : isX z ne = false := by simpa using h1
  by_cases h2 : z ∈ l
  ·exact .inl ⟨.inr h2, by rw [h1, zm3.2 h2]; rfl⟩
  ·refine .inr ⟨h1, h2, ?_⟩
   rw [h1, show memX l z = false from by rw [← Bool.not_eq_true, zm3]; exact h2]
   rfl
theorem zql {ne : Bool} : ∀ {zs l : List Ex} {z : Ex}, z ∈ zs.foldl (zdp ne) l → z ∈ l ∨ z ∈ zs ∧ isX z ne = false
 | [], l, z, h => .inl h
 | y :: ys, l, z, h => by
  rcases zql (zs := ys) h with h | ⟨h, k⟩
  ·rcases zv8 ne l y with ⟨_, e⟩ | ⟨e1, _, e⟩
   ·rw [e] at h; exact .inl h
   ·rw [e] at h
    rcases List.mem_append.1 h with h | h
    ·exact .inl h
    ·obtain rfl := List.mem_singleton.1 h
     exact .inr ⟨List.mem_cons_self .., e1⟩
  ·exact .inr ⟨List.mem_cons_of_mem _ h, k⟩
theorem zva {ne : Bool} : ∀ {zs l : List Ex}, szL (zs.foldl (zdp ne) l) ≤ szL l + szL zs
 | [], l => by rw [szL]; show szL l ≤ szL l + 0; omega
 | y :: ys, l => by
  have h1 := zva (ne := ne) (zs := ys) (l := zdp ne l y)
  have h2 := ze0 y
  rw [szL]
  show szL (ys.foldl (zdp ne) (zdp ne l y)) ≤ _
  rcases zv8 ne l y with ⟨_, e⟩ | ⟨_, _, e⟩
  ·rw [e] at h1 ⊢; omega
  ·rw [e] at h1 ⊢
   rw [zjy, szL, szL] at h1
   omega
theorem zqh (op : Int) : ∀ args : List Ex, szL (args.flatMap (zdd op)) ≤ szL args
 | [] => by rw [List.flatMap_nil]; exact Int.le_refl _
 | y :: ys => by
  have h1 := zqh op ys
  rw [List.flatMap_cons, zjy, szL]
  have : szL (zdd op y) ≤ szX y := by
   unfold zdd
   split
   ·rw [zk0]; omega
   ·rw [szL, szL]; omega
  omega
theorem gath_sz (op : Int) (ne : Bool) (args : List Ex) : szL (zdy op ne [] args) ≤ szL args := by
 have h1 := zva (ne := ne) (zs := args.flatMap (zdd op)) (l := [])
 have h2 := zqh op args
 rw [zja]
 rw [szL] at h1
 omega
theorem zlk {op : Int} {ne : Bool} {args : List Ex} {z : Ex} (h : z ∈ zdy op ne [] args) : isX z ne = false ∧ ∃ y, y ∈ args ∧ (opX y = op ∧ z ∈ zo3 y ∨ opX y ≠ op ∧ z = y) := by
 rw [zja] at h
 rcases zql h with h | ⟨h, k⟩
 ·cases h
 ·refine ⟨k, ?_⟩
  obtain ⟨y, hy, hz⟩ := List.mem_flatMap.1 h
  refine ⟨y, hy, ?_⟩
  unfold zdd at hz
  split at hz
  ·rename_i e; exact .inl ⟨e, hz⟩
  ·rename_i e; exact .inr ⟨e, List.mem_singleton.1 hz⟩
theorem zuy (y : Ex) : y = .nd (opX y) (ixX y) (zo3 y) := by cases y; rfl
theorem zsy {n : Int} {y z : Ex} (h : nds n y = 0) (hz : z ∈ zo3 y) : nds n z = 0 := by
 rw [zuy y] at h
 exact (zch h).2 z hz
theorem gath_rgt {n op : Int} {ne : Bool} {args : List Ex} (h : ∀ y ∈ args, nds n y = 0) {z : Ex} (hz : z ∈ zdy op ne [] args) : nds n z = 0 := by
 obtain ⟨_, y, hy, ⟨_, k⟩ | ⟨_, rfl⟩⟩ := zlk hz
 ·exact zsy (h y hy) k
 ·exact h z hy
theorem ztt (op : Int) (ne : Bool) (l : List Ex) : (∃ b, zmy op ne l = zeg b) ∨ (∃ y ∈ l, zmy op ne l = y) ∨ (l.any (hitX ne l) = false ∧ 2 ≤ l.length ∧ zmy op ne l = .nd op 0 l) := by
 unfold zmy
 by_cases h : l.any (hitX ne l) = true
 ·rw [if_pos h]; exact .inl ⟨_, rfl⟩
 ·rw [if_neg h]
  match l with
  | [] => exact .inl ⟨_, rfl⟩
  | [y] => exact .inr (.inl ⟨y, List.mem_cons_self .., rfl⟩)
  | y :: z :: r => exact .inr (.inr ⟨by simpa using h, Nat.le_add_left 2 r.length, rfl⟩)
theorem fin_rgt {n op : Int} {ne : Bool} {l : List Ex} (ho : op = 3 ∨ op = 4) (h : ∀ y ∈ l, nds n y = 0) (hl : szL l ≤ 255) : nds n (zmy op ne l) = 0 := by
 rcases ztt op ne l with ⟨b, e⟩ | ⟨y, hy, e⟩ | ⟨_, h2, e⟩
 ·rw [e]; exact ztf n b
 ·rw [e]; exact h y hy
 ·rw [e]
  have := zbx l
  refine znf (zi6 (by omega) (by omega) ?_ ?_ (by omega) ?_) h
  ·rcases ho with rfl | rfl <;> (show (2 : Int) ≤ l.length; omega)
  ·rcases ho with rfl | rfl <;> (show (l.length : Int) ≤ 256; omega)
  ·rcases ho with rfl | rfl <;> (show (0 : Int) ≤ 0; omega)
theorem fin_sz (op : Int) (ne : Bool) (l : List Ex) : szX (zmy op ne l) ≤ 1 + szL l := by
 have hn := zbr l
 rcases ztt op ne l with ⟨b, e⟩ | ⟨y, hy, e⟩ | ⟨_, _, e⟩
 ·rw [e]; unfold zeg; rw [szX, szL]; omega
 ·rw [e]; have := zjz hy; omega
 ·rw [e, szX]; omega
theorem zes {n ix : Int} {args : List Ex} (h : nds n (.nd 2 ix args) = 0) : ix = 0 ∧ ∃ y, args = [y] ∧ nds n y = 0 := by
 obtain ⟨hv, hk⟩ := zch h
 obtain ⟨_, _, h2, h3, h4, h5⟩ := zfu hv
 have e1 : zbm 2 = 1 := by decide
 have e2 : zcd 2 = 1 := by decide
 have e3 : zc4 2 n = 0 := by simp [zc4]
 have hl : args.length = 1 := by omega
 obtain ⟨y, rfl⟩ := List.length_eq_one_iff.1 hl
 exact ⟨by omega, y, rfl, hk y (List.mem_cons_self ..)⟩
theorem zvh {n op ix : Int} {args : List Ex} (h : nds n (.nd op ix args) = 0) (h2 : op ≠ 2) (h3 : op ≠ 3) (h4 : op ≠ 4) : (op = 0 ∨ op = 1) ∧ args = [] := by
 obtain ⟨hv, _⟩ := zch h
 obtain ⟨a, b, _, k3, _, _⟩ := zfu hv
 have : op = 0 ∨ op = 1 := by omega
 refine ⟨this, List.length_eq_zero_iff.1 ?_⟩
 have : zcd op = 0 := by rcases this with rfl | rfl <;> decide
 omega
theorem not_rgt {n : Int} {y : Ex} (h : nds n y = 0) : nds n (zsd 0 y) = 0 ∧ szX (zsd 0 y) ≤ 1 + szX y := by
 have hp := ze0 y
 unfold zsd
 split
 ·exact ⟨ztf n _, by unfold zeg; rw [szX, szL]; omega⟩
 ·split
  ·rename_i e
   obtain ⟨o, i, a⟩ := y
   obtain rfl : o = 2 := e
   obtain ⟨_, z, rfl, hz⟩ := zes h
   exact ⟨hz, by show szX z ≤ 1 + szX (.nd 2 i [z]); rw [szX, szL, szL]; omega⟩
  ·refine ⟨znf (zi6 (by decide) (by decide) (by show (1 : Int) ≤ 1; decide) (by show (1 : Int) ≤ 1; decide) (by decide) (by simp [zc4])) (fun z hz => by obtain rfl := List.mem_singleton.1 hz; exact h), ?_⟩
   rw [szX, szL, szL]; omega
theorem zhl {n ix : Int} {y : Ex} (h : nds n (.nd 2 ix [y]) = 0) : zdj (.nd 2 ix [y]) = zsd 0 y := by
 rw [zki, (zes h).1]
theorem zrr {n : Int} {x : Ex} (h : nds n x = 0) (hs : szX x ≤ 256) : nds n (zdj x) = 0 ∧ szX (zdj x) ≤ szX x := by
 obtain ⟨op, ix, args⟩ := x
 by_cases h2 : op = 2
 ·subst h2
  obtain ⟨_, y, rfl, hy⟩ := zes h
  rw [zhl h, szX, szL, szL]
  obtain ⟨a, b⟩ := not_rgt hy
  exact ⟨a, by omega⟩
 ·by_cases ho : op = 3 ∨ op = 4
  ·rw [zfs ix args ho]
   rw [szX] at hs ⊢
   have h1 := gath_sz op (op == 3) args
   have h3 := fin_sz op (op == 3) (zdy op (op == 3) [] args)
   exact ⟨fin_rgt ho (fun y hy => gath_rgt (zch h).2 hy) (by omega), by omega⟩
  ·rw [zft ix args h2 (fun e => ho (.inl e)) (fun e => ho (.inr e))]
   exact ⟨h, Int.le_refl _⟩
def zej (x : Ex) : Ex := zji zdj x
theorem zpb (op ix : Int) (args : List Ex) : zej (.nd op ix args) = zdj (.nd op ix (args.map zej)) := by
 show zji zdj _ = _
 rw [zji, zjh]
 rfl
theorem zvy {f : Ex → Ex} : ∀ {l : List Ex}, (∀ y ∈ l, szX (f y) ≤ szX y) → szL (l.map f) ≤ szL l
 | [], _ => by rw [List.map_nil]; exact Int.le_refl _
 | y :: ys, h => by
  have := h y (List.mem_cons_self ..)
  have := zvy (l := ys) fun z hz => h z (List.mem_cons_of_mem _ hz)
  rw [List.map_cons, szL, szL]; omega
theorem zh4 {n : Int} : ∀ (q : Nat) (x : Ex), SizeOf.sizeOf x ≤ q → nds n x = 0 → szX x ≤ 256 → nds n (zej x) = 0 ∧ szX (zej x) ≤ szX x ∧ ∀ op ix args, x = .nd op ix args → nds n (.nd op ix (args.map zej)) = 0 ∧ szX (.nd op ix (args.map zej)) ≤ szX x := by
 intro q
 induction q with
 | zero => intro x hq; cases x; simp at hq
 | succ q ih =>
  intro x hq hx hs
  obtain ⟨op, ix, args⟩ := x
  obtain ⟨hv, hk⟩ := zch hx
  have hsz : ∀ y ∈ args, szX y ≤ 256 := fun y hy => by have := zeu (op := op) (ix := ix) hy; omega
  have h1 : ∀ y ∈ args, nds n (zej y) = 0 ∧ szX (zej y) ≤ szX y := fun y hy => by
   obtain ⟨a, b, _⟩ := ih y (by have := zed (op := op) (ix := ix) hy; omega) (hk y hy) (hsz y hy)
   exact ⟨a, b⟩
  have h2 : nds n (.nd op ix (args.map zej)) = 0 := znf (by rw [List.length_map]; exact hv) fun z hz => by
   obtain ⟨y, hy, rfl⟩ := List.mem_map.1 hz
   exact (h1 y hy).1
  have h3 : szX (.nd op ix (args.map zej)) ≤ szX (.nd op ix args) := by
   have := zvy fun y hy => (h1 y hy).2
   rw [szX, szX]; omega
  obtain ⟨h4, h5⟩ := zrr h2 (by omega)
  rw [zpb]
  refine ⟨h4, by omega, fun o i a e => ?_⟩
  injection e with e1 e2 e3
  subst e1 e2 e3
  exact ⟨h2, h3⟩
end Go.Proofs.Ytmnkjofaodbokaa
namespace Go.Proofs.Ytmnkjofaodbokaa
open Go Go.Am
theorem zv9 {n : Int} {ne : Bool} {l : List Ex} {z : Ex} (h : nds n z = 0) : zff ne l z = zdp ne l z := by
 unfold zff zdp
 have : eqX z (zeg ne) = isX z ne := by rw [Bool.eq_iff_iff, zg7, is_iff h]
 rw [zqa, this]
theorem zkq {n : Int} {ne : Bool} : ∀ {zs l : List Ex}, (∀ z ∈ zs, nds n z = 0) → zs.foldl (zff ne) l = zs.foldl (zdp ne) l
 | [], l, _ => rfl
 | y :: ys, l, h => by
  show ys.foldl (zff ne) (zff ne l y) = ys.foldl (zdp ne) (zdp ne l y)
  rw [zv9 (h y (List.mem_cons_self ..)), zkq fun z hz => h z (List.mem_cons_of_mem _ hz)]
theorem zn3 {n op : Int} {ne : Bool} : ∀ {args l : List Ex}, (∀ y ∈ args, nds n y = 0) → zrh op ne l args = zdy op ne l args
 | [], l, _ => rfl
 | y :: ys, l, h => by
  show zrh op ne ((zdd op y).foldl (zff ne) l) ys = zdy op ne ((zdd op y).foldl (zdp ne) l) ys
  rw [zkq (n := n) (fun z hz => by
   have hy := h y (List.mem_cons_self ..)
   unfold zdd at hz
   split at hz
   ·exact zsy hy hz
   ·obtain rfl := List.mem_singleton.1 hz; exact hy), zn3 fun z hz => h z (List.mem_cons_of_mem _ hz)]
theorem zuq {n op : Int} {args : List Ex} (ho : op = 3 ∨ op = 4) (h : ∀ y ∈ args, nds n y = 0) : zrk op args = zmy op (op == 3) (zdy op (op == 3) [] args) := by
 unfold zrk
 rw [zn3 h]
 have hno : (op == 4) = !(op == 3) := by rcases ho with rfl | rfl <;> rfl
 rw [hno]
 generalize (op == 3) = ne at *
 unfold finR zmy
 have : (zdy op ne [] args).any (hitR (zdy op ne [] args)) = (zdy op ne [] args).any (hitX ne (zdy op ne [] args)) := by
  have key : ∀ y ∈ zdy op ne [] args, hitR (zdy op ne [] args) y = hitX ne (zdy op ne [] args) y := fun y hy => by
   unfold hitR hitX
   rw [zqa]
   congr 1
   have h1 := (zlk hy).1
   by_cases h0 : opX y = 0
   ·rw [h0, is_zero h0 h1]; rfl
   ·rw [is_op h0, beq_eq_false_iff_ne.2 h0]
  rw [Bool.eq_iff_iff, List.any_eq_true, List.any_eq_true]
  exact ⟨fun ⟨y, hy, e⟩ => ⟨y, hy, by rw [← key y hy]; exact e⟩, fun ⟨y, hy, e⟩ => ⟨y, hy, by rw [key y hy]; exact e⟩⟩
 rw [this]
mutual
def zkx : Ex → Ex
 | .nd op ix args => if op = 2 then zsd 0 ((zs0 args).headD (zeg false)) else if op = 3 ∨ op = 4 then zrk op (zs0 args) else .nd op ix args
def zs0 : List Ex → List Ex
 | [] => []
 | x :: xs => zkx x :: zs0 xs
end
theorem zmd : ∀ l, zs0 l = l.map zkx
 | [] => by rw [zs0]; rfl
 | x :: xs => by rw [zs0, zmd xs]; rfl
theorem zqy {n : Int} : ∀ (q : Nat) (x : Ex), SizeOf.sizeOf x ≤ q → nds n x = 0 → szX x ≤ 256 → zkx x = zej x := by
 intro q
 induction q with
 | zero => intro x hq; cases x; simp at hq
 | succ q ih =>
  intro x hq hx hs
  obtain ⟨_, _, h3⟩ := zh4 _ x (Nat.le_refl _) hx hs
  obtain ⟨op, ix, args⟩ := x
  obtain ⟨h4, _⟩ := h3 op ix args rfl
  have hm : args.map zkx = args.map zej := List.map_congr_left fun y hy => ih y (by have := zed (op := op) (ix := ix) hy; omega) ((zch hx).2 y hy) (by have := zeu (op := op) (ix := ix) hy; omega)
  rw [zkx, zmd, hm, zpb]
  by_cases h2 : op = 2
  ·subst h2
   obtain ⟨_, y, e, _⟩ := zes h4
   rw [e] at h4 ⊢
   rw [if_pos rfl, zhl h4]
   rfl
  ·rw [if_neg h2]
   by_cases ho : op = 3 ∨ op = 4
   ·rw [if_pos ho, zuq ho (zch h4).2, zfs _ _ ho]
   ·rw [if_neg ho, zft _ _ h2 (fun e => ho (.inl e)) (fun e => ho (.inr e))]
    obtain ⟨_, ha⟩ := zvh hx h2 (fun e => ho (.inl e)) (fun e => ho (.inr e))
    rw [ha]; rfl
end Go.Proofs.Ytmnkjofaodbokaa
namespace Go.Proofs.Ytmnkjofaodbokaa
open Go Go.Am
def Gv (b : Nat) (q : List Int) (w : AV) (hp : List (Nat × Nat × AObj)) (nx : Nat) : Prop :=
 (q = [] ∧ w = .nils) ∨ ∃ id sp, w = .ms id sp 1 0 q.length none ∧ Am.look id hp = some (sp, .cells (q.map (AV.int .i64))) ∧ b < id ∧ id < nx
section
variable {b nx : Nat} {q : List Int} {w : AV} {hp : List (Nat × Nat × AObj)}
theorem Gv.fresh (h : Gv b q w hp nx) (ck : Nat) (x : AObj) : Gv b q w ((nx, ck, x) :: hp) (nx + 1) := by
 rcases h with h | ⟨id, sp, e, hl, h1, h2⟩
 ·exact .inl h
 ·exact .inr ⟨id, sp, e, by rw [zax, if_neg (by omega)]; exact hl, h1, by omega⟩
theorem Gv.put (h : Gv b q w hp nx) {i : Nat} (hi : i ≤ b) (x : Nat × AObj) : Gv b q w (zc3 i x hp) nx := by
 rcases h with h | ⟨id, sp, e, hl, h1, h2⟩
 ·exact .inl h
 ·exact .inr ⟨id, sp, e, by rw [za1, if_neg (by omega)]; exact hl, h1, h2⟩
theorem Gv.view {S : AS} {d : Nat} (h : Gv b q w S.heap nx) : S.view (d + 1) w = vsI q := by
 rcases h with ⟨rfl, rfl⟩ | ⟨id, sp, rfl, hl, _, _⟩
 ·rfl
 ·exact zw3 q rfl hl
end
-- slices.Index[[]int,int]
-- slices.Contains[[]int,int]
-- slices.Equal[[]int,int]
end Go.Proofs.Ytmnkjofaodbokaa
namespace Go.Proofs
open Go.Shelf
namespace Ytmnkjofaodbokaa
open Go Go.Am Go.RowKit
end Ytmnkjofaodbokaa
end Go.Proofs
namespace Go.Proofs.Ytmnkjofaodbokaa
open Go Go.Am
noncomputable def ca28_0 : Code := match env0.fn 28 with
 | some i => ((zd4 i.ic)[0]?.getD (.skip, .skip)).1
 | none => .skip
noncomputable def cb28_0 : Code := match env0.fn 28 with
 | some i => ((zd4 i.ic)[0]?.getD (.skip, .skip)).2
 | none => .skip
structure I28 (ltm : List (Nat × AV)) (s : List Int) (H : HS) : Prop where
 nx : 4 ≤ H.next
 h3 : Am.look 3 H.heap = some (2, .loop .ready none 32 (zee ltm) [18, 19] ca28_0 cb28_0 (2, 1))
 h2 : Am.look 2 H.heap = some (1, .deferred)
 h0 : ∃ sp, Am.look 0 H.heap = some (0, .cells [.ms 1 sp 1 0 s.length none]) ∧ Am.look 1 H.heap = some (sp, .cells (s.map (AV.int .i64)))
end Go.Proofs.Ytmnkjofaodbokaa
namespace Go.Proofs.Ytmnkjofaodbokaa
open Go Go.Am
theorem zgp : ∀ (m : Nat) (x : Ex), zcm m x = true → zcm (m + 1) x = true
 | 0, x, h => by cases x; rw [zcm] at h; cases h
 | m + 1, .nd op ix args, h => by
  rw [zd0, List.all_eq_true] at h ⊢
  exact fun y hy => zgp m y (h y hy)
theorem zmu {m : Nat} {y z : Ex} (h : zcm m y = true) (hz : z ∈ zo3 y) : zcm m z = true := by
 obtain ⟨o, i, a⟩ := y
 match m, h with
 | 0, h => rw [zcm] at h; cases h
 | m + 1, h =>
  rw [zd0, List.all_eq_true] at h
  exact zgp m z (h z hz)
theorem zpy {m : Nat} (h : 0 < m) (b : Bool) : zcm m (zeg b) = true := by
 match m, h with
 | m + 1, _ =>
  unfold zeg
  rw [zd0]; rfl
theorem deep_pos {m : Nat} {x : Ex} (h : zcm m x = true) : 0 < m := by
 match m, h with
 | 0, h => cases x; rw [zcm] at h; cases h
 | m + 1, _ => omega
theorem zob {n : Int} {m : Nat} {x : Ex} (hx : nds n x = 0) (hd : zcm m x = true) : zcm m (zdj x) = true := by
 obtain ⟨op, ix, args⟩ := x
 obtain ⟨m, rfl⟩ : ∃ k, m = k + 1 := ⟨m - 1, by have := deep_pos hd; omega⟩
 have hp : 0 < m + 1 := Nat.succ_pos m
 have h : ∀ y ∈ args, zcm m y = true := by
  have := hd
  rw [zd0, List.all_eq_true] at this
  exact this
 by_cases h2 : op = 2
 ·subst h2
  obtain ⟨_, y, rfl, hy⟩ := zes hx
  rw [zhl hx]
  have hyd := h y (List.mem_cons_self ..)
  unfold zsd
  split
  ·exact zpy hp _
  ·split
   ·rename_i e
    obtain ⟨o, i, a⟩ := y
    obtain rfl : o = 2 := e
    obtain ⟨_, z, rfl, hz⟩ := zes hy
    exact zgp m z (zmu hyd (List.mem_cons_self ..))
   ·rw [zd0, List.all_eq_true]
    intro z hz
    obtain rfl := List.mem_singleton.1 hz
    exact hyd
 ·by_cases ho : op = 3 ∨ op = 4
  ·rw [zfs ix args ho]
   have hg : ∀ z ∈ zdy op (op == 3) [] args, zcm m z = true := fun z hz => by
    obtain ⟨_, y, hy, ⟨_, k⟩ | ⟨_, rfl⟩⟩ := zlk hz
    ·exact zmu (h y hy) k
    ·exact h z hy
   rcases ztt op (op == 3) (zdy op (op == 3) [] args) with ⟨b, e⟩ | ⟨y, hy, e⟩ | ⟨_, _, e⟩
   ·rw [e]; exact zpy hp b
   ·rw [e]; exact zgp m y (hg y hy)
   ·rw [e, zd0, List.all_eq_true]; exact hg
  ·rw [zft ix args h2 (fun e => ho (.inl e)) (fun e => ho (.inr e))]
   exact hd
theorem ztk {n : Int} : ∀ (q : Nat) (x : Ex) (m : Nat), SizeOf.sizeOf x ≤ q → nds n x = 0 → szX x ≤ 256 → zcm m x = true → zcm m (zej x) = true := by
 intro q
 induction q with
 | zero => intro x m hq; cases x; simp at hq
 | succ q ih =>
  intro x m hq hx hs hd
  obtain ⟨_, _, h3⟩ := zh4 _ x (Nat.le_refl _) hx hs
  obtain ⟨op, ix, args⟩ := x
  rw [zpb]
  refine zob (h3 op ix args rfl).1 ?_
  match m, hd with
  | 0, hd => rw [zcm] at hd; cases hd
  | m + 1, hd =>
   rw [zd0, List.all_eq_true] at hd ⊢
   intro z hz
   obtain ⟨y, hy, rfl⟩ := List.mem_map.1 hz
   exact ih y m (by have := zed (op := op) (ix := ix) hy; omega) ((zch hx).2 y hy) (by have := zeu (op := op) (ix := ix) hy; omega) (hd y hy)
theorem zrm {n : Int} {x : Ex} (hx : nds n x = 0) (h : zcj x = true) : zcj (zej x) = true := by
 obtain ⟨h1, h2⟩ := (zcy x).1 h
 obtain ⟨_, h3, _⟩ := zh4 _ x (Nat.le_refl _) hx h1
 exact (zcy _).2 ⟨by omega, ztk _ x 16 (Nat.le_refl _) hx h1 h2⟩
inductive NF : Ex → Prop
 | con (b : Bool) : NF (zeg b)
 | var (ix : Int) : NF (.nd 1 ix [])
 | neg {y : Ex} (h : NF y) (h0 : opX y ≠ 0) (h2 : opX y ≠ 2) : NF (.nd 2 0 [y])
 | op {op : Int} {l : List Ex} (ho : op = 3 ∨ op = 4) (hl : 2 ≤ l.length) (h : ∀ y ∈ l, NF y) (h0 : ∀ y ∈ l, opX y ≠ 0 ∧ opX y ≠ op) (hd : l.Nodup) (hn : ∀ y ∈ l, zp1 y ∉ l) : NF (.nd op 0 l)
end Go.Proofs.Ytmnkjofaodbokaa
