/-
  C5, C6, TB, D1 in one text.
-/
import Derived.Test.YtoiblgbaeglgoaaYCA
import Derived.KernelRfl
import Derived.Test.YtoiblgbaeglgoaaYQD
import Derived.Test.YtoiblgbaeglgoaaYA9
namespace Go.Proofs.Ytoiblgbaeglgoaa
open Go Go.Am
def zud : IC := .seq (.seq (.region [⟨(some 21), .mov (.t 7), none⟩,
  ⟨(some 22), .mov (.t 0), none⟩,
  ⟨(some 23), .mov (.t 4), none⟩,
  ⟨(some 24), .idxs 1 (.t 22) (.t 23), none⟩,
  ⟨(some 25), .load none (.t 24), none⟩,
  ⟨(some 26), .len false (.t 25), none⟩,
  ⟨(some 27), .bin .lss (.t 21) (.t 26), none⟩] none)
 (.cond (.t 27) (.skip)
 (.exit 4)))
 (.seq (.block 5 (.region [⟨(some 30), .mov (.t 5), none⟩,
  ⟨(some 31), .bslice 1 0 [] [], none⟩,
  ⟨(some 32), .mov (.t 3), none⟩,
  ⟨(some 33), .mov (.t 6), none⟩,
  ⟨(some 34), .idxs 1 (.t 32) (.t 33), none⟩,
  ⟨(some 35), .load none (.t 34), none⟩,
  ⟨(some 36), .append 1 8 [.int .i64 0] (.t 31) (.t 35), none⟩,
  ⟨(some 37), .mov (.t 0), none⟩,
  ⟨(some 38), .mov (.t 4), none⟩,
  ⟨(some 39), .idxs 1 (.t 37) (.t 38), none⟩,
  ⟨(some 40), .load none (.t 39), none⟩,
  ⟨(some 41), .mov (.t 7), none⟩,
  ⟨(some 42), .idxs 1 (.t 40) (.t 41), none⟩,
  ⟨(some 43), .load none (.t 42), none⟩,
  ⟨(some 44), .bslice 1 1 [.int .i64 0] [(0, 1, (.t 43))], none⟩,
  ⟨(some 45), .append 1 8 [.int .i64 0] (.t 36) (.t 44), none⟩,
  ⟨(some 46), .bslice 1 1 [.nils] [(0, 1, (.t 45))], none⟩,
  ⟨(some 47), .append 1 24 [.nils] (.t 30) (.t 46), none⟩,
  ⟨(some 5), .mov (.t 47), none⟩] (some [[], [], [], [], [2, 3], [4], [1, 5], [], [], [7, 8], [9], [], [10, 11], [12], [13], [6, 14, 6], [15], [0, 16, 15], [17, 17, 0, 1, 2, 3, 4, 5, 6, 7, 8, 9, 10, 11, 12, 13, 14, 15, 16, 17]])))
 (.region [⟨(some 28), .mov (.t 7), none⟩,
  ⟨(some 29), .bin .add (.t 28) (.c (.int .i64 1)), none⟩,
  ⟨(some 7), .mov (.t 29), none⟩] none))
def zuc : IC := .seq (.seq (.region [⟨(some 15), .mov (.t 6), none⟩,
  ⟨(some 16), .mov (.t 3), none⟩,
  ⟨(some 17), .len false (.t 16), none⟩,
  ⟨(some 18), .bin .lss (.t 15) (.t 17), none⟩] none)
 (.cond (.t 18) (.skip)
 (.exit 2)))
 (.seq (.block 3 (.seq (.region [⟨(some 7), .mov (.c (.int .i64 0)), none⟩] none)
 (.block 4 (.loop zud))))
 (.region [⟨(some 19), .mov (.t 6), none⟩,
  ⟨(some 20), .bin .add (.t 19) (.c (.int .i64 1)), none⟩,
  ⟨(some 6), .mov (.t 20), none⟩] none))
def b133_0 : IC := .seq (.seq (.region [⟨(some 9), .mov (.t 4), none⟩,
  ⟨(some 10), .mov (.t 0), none⟩,
  ⟨(some 11), .len false (.t 10), none⟩,
  ⟨(some 12), .bin .lss (.t 9) (.t 11), none⟩] none)
 (.cond (.t 12) (.skip)
 (.exit 0)))
 (.seq (.block 1 (.seq (.region [⟨(some 5), .mov (.c (.nils)), none⟩] none)
 (.seq (.seq (.region [⟨(some 6), .mov (.c (.int .i64 0)), none⟩] none)
 (.block 2 (.loop zuc)))
 (.region [⟨(some 48), .mov (.t 5), none⟩,
  ⟨(some 3), .mov (.t 48), none⟩] none))))
 (.region [⟨(some 13), .mov (.t 4), none⟩,
  ⟨(some 14), .bin .add (.t 13) (.c (.int .i64 1)), none⟩,
  ⟨(some 4), .mov (.t 14), none⟩] none))
-- pneumatic/pneumaticref49.Combined
def ic133 : IC := .seq (.region [⟨(some 2), .mov (.c (.nils)), none⟩] none)
 (.seq (.region [⟨(some 8), .bslice 1 1 [.nils] [(0, 1, (.c (.nils)))], none⟩,
  ⟨(some 3), .mov (.t 8), none⟩] none)
 (.seq (.seq (.region [⟨(some 4), .mov (.c (.int .i64 0)), none⟩] none)
 (.block 0 (.loop b133_0)))
 (.seq (.region [⟨(some 49), .mov (.t 3), none⟩,
  ⟨(some 2), .mov (.t 49), none⟩] none)
 (.ret))))
theorem fn133 : env0.fn 133 = some ⟨50, ic133, [.t 2]⟩ := by kernel_rfl
def ext (out : List (List Int)) (c : List Int) : List (List Int) := out.flatMap fun p => c.map fun x => p ++ [x]
def cmb : List (List Int) → List (List Int) → List (List Int)
 | out, [] => out
 | out, c :: cs => cmb (ext out c) cs
theorem cmb_eq : ∀ (cs out : List (List Int)), cmb out cs = out.flatMap fun p => (zet cs).map (p ++ ·)
 | [], out => by
  rw [cmb, zet]
  induction out with
  | nil => rfl
  | cons p out ih =>
   rw [List.flatMap_cons, ← ih]
   simp
 | c :: cs, out => by
  rw [cmb, cmb_eq cs, ext, List.flatMap_assoc]
  congr 1
  funext p
  rw [zet, List.flatMap_map, List.map_flatMap]
  congr 1
  funext x
  rw [List.map_map]
  apply List.map_congr_left
  intro l _
  simp
theorem zk3 (cs : List (List Int)) : cmb [[]] cs = zet cs := by
 rw [cmb_eq]
 simp
def zgd (out : List (List Int)) : List AV := out.map vsI
theorem zin (out : List (List Int)) : css out = .vs ((zgd out).map fun v => [v]) := by
 unfold css zgd
 rw [List.map_map]
 rfl
theorem zcs : ∀ out : List (List Int), hasM.hasML (zgd out) = false
 | [] => rfl
 | p :: out => by
  have := zcs out
  show (hasM (vsI p) || hasM.hasML (zgd out)) = false
  rw [this]
  rfl
theorem zpw (out : List (List Int)) (c : List Int) : (ext out c).length = out.length * c.length := by
 unfold ext
 induction out with
 | nil => simp
 | cons p out ih => rw [List.flatMap_cons, List.length_append, List.length_map, ih, List.length_cons, Nat.succ_mul]; omega
theorem zd6 (l : List Int) : (l.map (AV.int .i64)) = (l.map fun z => ([.int .i64 z] : List AV)).flatten := by
 induction l with
 | nil => rfl
 | cons z l ih => simpa using ih
theorem zw0 : ∀ l : List Int, (l.map (AV.int .i64)).all AV.isCell = true
 | [] => rfl
 | z :: l => by
  simp [AV.isCell]
section
variable {w0 : World} {N0 : Nat} {k : List Fr} {Q : Exit → AS → Prop}
theorem loop83_4 {y : IC} {cs out nxt : List (List Int)} {ci ki : Nat} (h1 : ci < cs.length) (h2 : ki < out.length) (hb : nxt.length + cs[ci].length ≤ 1000000) (hp : out[ki].length ≤ 1000)
  (fin : ∀ sp, Zm Try.prog w0 N0 none y (st 50 [(0, css cs), (3, css out), (4, .int .i64 (ci : Nat)), (5, .ms 0 sp 1 0 (nxt ++ cs[ci].map fun x => out[ki] ++ [x]).length none), (6, .int .i64 (ki : Nat))] [(0, sp, .cells (zgd (nxt ++ cs[ci].map fun x => out[ki] ++ [x])))] 1 1) k Q) :
  Zm Try.prog w0 N0 none (.loop zud) (st 50 [(0, css cs), (3, css out), (4, .int .i64 (ci : Nat)), (5, .ms 0 0 1 0 nxt.length none), (6, .int .i64 (ki : Nat)), (7, .int .i64 0)] [(0, 0, .cells (zgd nxt))] 1 1) (.blk 4 :: .blk 3 :: .seq y :: k) Q := by
 have hcl : (cs.map fun c => ([vsI c] : List AV)).length = cs.length := List.length_map ..
 have hg := zk5 h1
 have hg2 := zk5 h2
 generalize hc : cs[ci] = c at *
 generalize ho : out[ki] = p at *
 refine zbl (fun mm S => ∃ j, mm = c.length - j ∧ j ≤ c.length ∧ S = st 50 [(0, css cs), (3, css out), (4, .int .i64 (ci : Nat)), (5, .ms 0 0 1 0 (nxt ++ (c.take j).map fun x => p ++ [x]).length none), (6, .int .i64 (ki : Nat)), (7, .int .i64 (j : Nat))] [(0, 0, .cells (zgd (nxt ++ (c.take j).map fun x => p ++ [x])))] 1 1) c.length
  (zap (.cons rfl (.cons rfl (.cons rfl (.cons rfl (.cons rfl (.cons rfl .nil))))))) ⟨0, rfl, Nat.zero_le _, by rw [List.take_zero, List.map_nil, List.append_nil]⟩ ?_
 rintro mm S ⟨j, rfl, hj, rfl⟩
 unfold zud
 have hvl : (c.map fun z => ([.int .i64 z] : List AV)).length = c.length := List.length_map ..
 unfold vsI at hg hg2
 repeat (first | refine za6 ?_ | refine za0 rfl ?_ | refine za4 rfl ?_ | refine za8 rfl rfl ?_ | refine zba rfl rfl ?_ | refine zav rfl rfl (by omega) (by assumption) rfl ?_)
 refine zaq rfl rfl rfl (fun h3 => ?_) fun h3 => ?_
 ·have hlt : j < c.length := by
   have : ((j : Nat) : Int) < ((c.map fun z => ([.int .i64 z] : List AV)).length : Nat) := of_decide_eq_true h3
   rw [hvl] at this
   omega
  have hgx := zgt c j hlt
  have ht : (c.take (j + 1)).map (fun x => p ++ [x]) = (c.take j).map (fun x => p ++ [x]) ++ [p ++ [c[j]]] := by
   rw [List.take_add_one, List.getElem?_eq_getElem hlt, List.map_append]
   rfl
  generalize hx : c[j] = x at hgx ht
  have hnl : (zgd (nxt ++ (c.take j).map fun x => p ++ [x])).length = (nxt ++ (c.take j).map fun x => p ++ [x]).length := List.length_map ..
  have hnl2 : (nxt ++ (c.take j).map fun x => p ++ [x]).length ≤ 1000000 := by rw [List.length_append, List.length_map, List.length_take]; omega
  have hnM := zcs (nxt ++ (c.take j).map fun x => p ++ [x])
  generalize hN : nxt ++ (c.take j).map (fun x => p ++ [x]) = N' at hnl hnl2 hnM
  have hN1 : nxt ++ (c.take (j + 1)).map (fun x => p ++ [x]) = N' ++ [p ++ [x]] := by rw [ht, ← List.append_assoc, hN]
  have hrow : zgd (N' ++ [p ++ [x]]) = zgd N' ++ [vsI (p ++ [x])] := by unfold zgd; rw [List.map_append]; rfl
  repeat (first | refine za3 ?_ | refine za2 ?_ | refine za6 ?_ | refine zaz rfl ?_ | refine zac ?_ | refine zab ?_)
  refine z_drawnF env0_ok (fun d => Nat.beq d 44) false [] (fun _ hx => absurd hx List.not_mem_nil) (fun _ => false) [] (fun _ hx => absurd hx List.not_mem_nil) (fun _ => false) rfl rfl rfl ?_
  refine za4 rfl (znh rfl rfl rfl (za4 rfl (za4 rfl (zav rfl rfl (by omega) hg2 rfl (za8 rfl rfl ?_)))))
  cases p with
  | nil =>
   refine zc0 rfl rfl rfl rfl ?_
   refine za4 rfl (za4 rfl (zav rfl rfl (by omega) hg rfl (za8 rfl rfl (za4 rfl (zav rfl rfl (by omega) hgx rfl (za8 rfl rfl ?_))))))
   refine zs1 rfl rfl rfl rfl rfl ?_
   refine zc0 rfl rfl rfl rfl ?_
   refine znh rfl rfl rfl ?_
   refine zbg [[_]] rfl rfl rfl (fun h => Nat.noConfusion h) rfl (by decide) rfl (by rw [hnl, Nat.mul_one]) (by show _ + 1 ≤ _; omega) ?_
   repeat (first | refine za0 rfl ?_ | refine za3 ?_ | refine za2 ?_ | refine zb2 ?_ | refine za4 rfl ?_ | refine zax (op := .add) rfl rfl rfl ?_)
   rw [zan j (by omega)]
   refine zat (show c.length - (j + 1) < c.length - j by omega) (zbc [(some (0, 4), zgd N' ++ [vsI ([] ++ [x])])] [(2, 2, [.int .i64 x])] rfl rfl rfl (.cons rfl rfl .nil) (.cons rfl (.snoc hnM (.fms (cs := [.int .i64 x]) (xs := [[.int .i64 x]]) rfl rfl (fun y hy => by obtain rfl := List.mem_singleton.1 hy; rfl) ⟨[], rfl⟩)) .nil) (.cons rfl (.same rfl) (.cons rfl (.same rfl) (.cons rfl (.same rfl) (.cons rfl (.ms rfl) (.cons rfl (.same rfl) (.cons rfl (.same rfl) .nil)))))))
    ⟨j + 1, rfl, hlt, by rw [hN1, hrow, List.length_append]; rfl⟩
  | cons p0 p =>
   have hpf : ((p0 :: p).map fun z => ([.int .i64 z] : List AV)).flatten = (p0 :: p).map (AV.int .i64) := (zd6 _).symm
   have hpl : ((p0 :: p).map fun z => ([.int .i64 z] : List AV)).length = (p0 :: p).length := List.length_map ..
   refine zj9 (((p0 :: p).map fun z => ([.int .i64 z] : List AV))) rfl rfl (zrl fun x hx => by obtain ⟨z, _, rfl⟩ := List.mem_map.1 hx; rfl) (by rw [hpl]; exact Nat.succ_ne_zero _) (by rw [hpf]; exact zw0 _) (by decide) rfl (by omega) ?_
   rw [hpf, hpl]
   refine za4 rfl (za4 rfl (zav rfl rfl (by omega) hg rfl (za8 rfl rfl (za4 rfl (zav rfl rfl (by omega) hgx rfl (za8 rfl rfl ?_))))))
   refine zs1 rfl rfl rfl rfl rfl ?_
   refine zbg [[.int .i64 x]] rfl rfl rfl (fun h => Nat.noConfusion h) rfl (by decide) rfl (by rw [List.length_map, Nat.mul_one]) (by show _ + 1 ≤ _; omega) ?_
   refine znh rfl rfl rfl ?_
   refine zbg [[_]] rfl rfl rfl (fun h => Nat.noConfusion h) rfl (by decide) rfl (by rw [hnl, Nat.mul_one]) (by show _ + 1 ≤ _; omega) ?_
   repeat (first | refine za0 rfl ?_ | refine za3 ?_ | refine za2 ?_ | refine zb2 ?_ | refine za4 rfl ?_ | refine zax (op := .add) rfl rfl rfl ?_)
   rw [zan j (by omega)]
   have hpx : (p0 :: p).map (AV.int .i64) ++ [.int .i64 x] = (p0 :: p ++ [x]).map (AV.int .i64) := by rw [List.map_append]; rfl
   refine zat (show c.length - (j + 1) < c.length - j by omega) (zbc [(some (0, 5), zgd N' ++ [vsI (p0 :: p ++ [x])])] [(2, 3, (p0 :: p).map (AV.int .i64) ++ [.int .i64 x])] rfl rfl rfl (.cons rfl (zcr (zaj _) rfl) .nil) (.cons rfl (.snoc hnM (.fms (cs := (p0 :: p).map (AV.int .i64) ++ [.int .i64 x]) (xs := (p0 :: p ++ [x]).map fun z => [.int .i64 z]) rfl ?_ (fun y hy => by obtain ⟨z, _, rfl⟩ := List.mem_map.1 hy; rfl) ⟨[], ?_⟩)) .nil) (.cons rfl (.same rfl) (.cons rfl (.same rfl) (.cons rfl (.same rfl) (.cons rfl (.ms rfl) (.cons rfl (.same rfl) (.cons rfl (.same rfl) .nil)))))))
    ⟨j + 1, rfl, hlt, by rw [hN1, hrow, List.length_append]; rfl⟩
   ·simp
   ·rw [List.drop_zero, List.append_nil, hpx, zd6]
 ·have hj2 : j = c.length := by
   have : ¬ ((j : Nat) : Int) < ((c.map fun z => ([.int .i64 z] : List AV)).length : Nat) := of_decide_eq_false h3
   rw [hvl] at this
   omega
  subst hj2
  rw [List.take_length]
  refine za3 (za2 (zb8 rfl (zb7 (zaf (zc4 (zb6 (zb2 (za2 ?_))))))))
  exact zf9 (zap (.cons rfl (.cons rfl (.cons rfl (.cons rfl (.cons rfl .nil)))))) (fin 0)
end
end Go.Proofs.Ytoiblgbaeglgoaa
namespace Go.Proofs.Ytoiblgbaeglgoaa
open Go Go.Am
section
variable {w0 : World} {N0 : Nat} {k : List Fr} {Q : Exit → AS → Prop}
theorem zrn {out : List (List Int)} {c : List Int} {i : Nat} (h : i < out.length) : ext (out.take (i + 1)) c = ext (out.take i) c ++ c.map fun x => out[i] ++ [x] := by
 unfold ext
 rw [List.take_add_one, List.getElem?_eq_getElem h, List.flatMap_append]
 simp
theorem loop83_2 {y : IC} {cs out : List (List Int)} {ci : Nat} {l : List (Nat × AV)} {hp : List (Nat × Nat × AObj)} {nx ck : Nat} (h1 : ci < cs.length) (hb : out.length * cs[ci].length ≤ 1000000) (hp1 : ∀ p ∈ out, p.length ≤ 1000)
  (hl : RnA [(none, [])] [] l [(0, css cs), (3, css out), (4, .int .i64 (ci : Nat)), (5, .ms 0 0 1 0 0 none), (6, .int .i64 0)])
  (hol0 : out.length ≤ 1000000) (fin : Zm Try.prog w0 N0 none y (st 50 [(0, css cs), (4, .int .i64 (ci : Nat)), (5, .ms 0 0 1 0 (ext out cs[ci]).length none)] [(0, 0, .cells (zgd (ext out cs[ci])))] 1 1) k Q) :
  Zm Try.prog w0 N0 none (.loop zuc) (st 50 l hp nx ck) (.blk 2 :: .seq y :: k) Q := by
 have hol : (out.map fun c => ([vsI c] : List AV)).length = out.length := List.length_map ..
 refine zbl (fun mm S => ∃ i sp, mm = out.length - i ∧ i ≤ out.length ∧ S = st 50 [(0, css cs), (3, css out), (4, .int .i64 (ci : Nat)), (5, .ms 0 sp 1 0 (ext (out.take i) cs[ci]).length none), (6, .int .i64 (i : Nat))] [(0, sp, .cells (zgd (ext (out.take i) cs[ci])))] 1 1) out.length
  (zbc [(none, [])] [] rfl rfl rfl .nil (.new .nil) hl) ⟨0, 0, rfl, Nat.zero_le _, rfl⟩ ?_
 rintro mm S ⟨i, sp, rfl, hi, rfl⟩
 unfold zuc
 repeat (first | refine za6 ?_ | refine za0 rfl ?_ | refine za4 rfl ?_ | refine zba rfl rfl ?_)
 refine zaq rfl rfl rfl (fun h3 => ?_) fun h3 => ?_
 ·have hlt : i < out.length := by
   have : ((i : Nat) : Int) < ((out.map fun c => ([vsI c] : List AV)).length : Nat) := of_decide_eq_true h3
   rw [hol] at this
   omega
  have hxl := zpw (out.take i) cs[ci]
  have hbl : (ext (out.take i) cs[ci]).length + cs[ci].length ≤ 1000000 := by
   rw [hxl, List.length_take, Nat.min_eq_left (Nat.le_of_lt hlt), ← Nat.succ_mul]
   exact Nat.le_trans (Nat.mul_le_mul_right _ hlt) hb
  repeat (first | refine za3 ?_ | refine za2 ?_ | refine za6 ?_ | refine zaz rfl ?_ | refine zac ?_ | refine zab ?_ | refine za0 rfl ?_ | refine za4 rfl ?_)
  refine zpa [(some (0, sp), zgd (ext (out.take i) cs[ci]))] [] [(0, css cs), (3, css out), (4, .int .i64 (ci : Nat)), (5, .ms 0 0 1 0 (ext (out.take i) cs[ci]).length none), (6, .int .i64 (i : Nat)), (7, .int .i64 0)] rfl .nil (.cons rfl (.keep (zcs _)) .nil) (.cons rfl (.same rfl) (.cons rfl (.same rfl) (.cons rfl (.same rfl) (.cons rfl (.ms rfl) (.cons rfl (.same rfl) (.cons rfl (.same rfl) .nil)))))) ?_
  refine loop83_4 h1 hlt hbl (hp1 _ (List.getElem_mem hlt)) fun sp2 => ?_
  repeat (first | refine za0 rfl ?_ | refine za3 ?_ | refine za4 rfl ?_ | refine zax (op := .add) rfl rfl rfl ?_)
  rw [zan i (by omega)]
  exact zat (show out.length - (i + 1) < out.length - i by omega) (zbc [(some (0, sp2), zgd (ext (out.take (i + 1)) cs[ci]))] [] rfl rfl rfl .nil (.cons (by rw [zrn hlt]; rfl) (.keep (zcs _)) .nil) (.cons rfl (.same rfl) (.cons rfl (.same rfl) (.cons rfl (.same rfl) (.cons (by rw [zrn hlt]; rfl) (.ms rfl) (.cons rfl (.same rfl) .nil)))))) ⟨i + 1, 0, rfl, hlt, rfl⟩
 ·have hi2 : i = out.length := by
   have : ¬ ((i : Nat) : Int) < ((out.map fun c => ([vsI c] : List AV)).length : Nat) := of_decide_eq_false h3
   rw [hol] at this
   omega
  subst hi2
  rw [List.take_length]
  refine za3 (za2 (zb8 rfl (zb7 (zaf (zc4 (zb6 (za2 ?_)))))))
  exact zpa [(some (0, sp), zgd (ext out cs[ci]))] [] [(0, css cs), (4, .int .i64 (ci : Nat)), (5, .ms 0 0 1 0 (ext out cs[ci]).length none)] rfl .nil (.cons rfl (.keep (zcs _)) .nil) (.cons rfl (.same rfl) (.cons rfl (.same rfl) (.cons rfl (.ms rfl) .nil))) fin
theorem zmo : ∀ (cs out : List (List Int)) (i : Nat) (h : i < cs.length), cmb out (cs.take (i + 1)) = ext (cmb out (cs.take i)) cs[i]
 | c :: cs, out, 0, _ => rfl
 | c :: cs, out, i + 1, h => by
  rw [List.take_succ_cons, List.take_succ_cons, cmb, cmb]
  exact zmo cs _ i (by simpa using h)
theorem zmn : ∀ (cs out : List (List Int)) (m : Nat), (∀ c ∈ cs, c.length ≤ 9) → out.length ≤ m → (cmb out cs).length ≤ m * 9 ^ cs.length
 | [], out, m, _, h => by rw [cmb]; simpa using h
 | c :: cs, out, m, hc, h => by
  rw [cmb]
  have := zmn cs (ext out c) (m * 9) (fun c h => hc c (List.mem_cons_of_mem _ h)) (by
   rw [zpw]
   exact Nat.mul_le_mul h (hc c (List.mem_cons_self ..)))
  rw [List.length_cons, Nat.pow_succ, Nat.mul_comm (9 ^ cs.length) 9, ← Nat.mul_assoc]
  exact this
theorem ext_row {out : List (List Int)} {c : List Int} {m : Nat} (h : ∀ p ∈ out, p.length = m) : ∀ p ∈ ext out c, p.length = m + 1 := by
 intro p hp
 unfold ext at hp
 obtain ⟨q, hq, hp⟩ := List.mem_flatMap.1 hp
 obtain ⟨x, _, rfl⟩ := List.mem_map.1 hp
 rw [List.length_append, h q hq]
 rfl
theorem zpp : ∀ (cs out : List (List Int)) (m : Nat), (∀ p ∈ out, p.length = m) → ∀ p ∈ cmb out cs, p.length = m + cs.length
 | [], out, m, h => by rw [cmb]; simpa using h
 | c :: cs, out, m, h => by
  intro p hp
  rw [cmb] at hp
  rw [zpp cs _ (m + 1) (ext_row h) p hp, List.length_cons]
  omega
theorem pow9 {i : Nat} (h : i ≤ 6) : 9 ^ i ≤ 531441 := by
 have := Nat.pow_le_pow_right (show 0 < 9 by decide) h
 simpa using this
theorem zsw (cs : List (List Int)) (hn : cs.length ≤ 6) (hc : ∀ c ∈ cs, c.length ≤ 9) : PF Try.prog 133 [css cs] (css (zet cs)) := by
 have hcl : (cs.map fun c => ([vsI c] : List AV)).length = cs.length := List.length_map ..
 refine zbb env0_ok fn133 [(0, css cs)] (by show 1 ≤ 50; decide) rfl fun w0 N0 => ?_
 unfold ic133
 repeat (first | refine za6 ?_ | refine za0 rfl ?_ | refine za3 ?_ | refine za2 ?_ | refine zab ?_ | refine za4 rfl ?_ | refine zbe rfl rfl ?_)
 refine zpa [(some (0, 0), [.vs []])] [] [(0, css cs), (3, .ms 0 0 1 0 1 (some 1)), (4, .int .i64 0)] rfl .nil (.cons rfl (.cons .nilvs .nil) .nil) (.cons rfl (.same rfl) (.cons rfl (.ms rfl) (.cons rfl (.same rfl) .nil))) ?_
 refine zbl (fun mm S => ∃ i, mm = cs.length - i ∧ i ≤ cs.length ∧ S = st 50 [(0, css cs), (3, css (cmb [[]] (cs.take i))), (4, .int .i64 (i : Nat))] [] 0 1) cs.length
  (zbc [] [(0, 0, [.vs []])] rfl rfl rfl (.cons rfl rfl .nil) .nil (.cons rfl (.same rfl) (.cons rfl (.fms (cs := [.vs []]) (xs := [[.vs []]]) rfl rfl (fun y hy => by obtain rfl := List.mem_singleton.1 hy; rfl) ⟨[], rfl⟩) (.cons rfl (.same rfl) .nil)))) ⟨0, rfl, Nat.zero_le _, rfl⟩ ?_
 rintro mm S ⟨i, rfl, hi, rfl⟩
 unfold b133_0
 repeat (first | refine za6 ?_ | refine za0 rfl ?_ | refine za4 rfl ?_ | refine zba rfl rfl ?_)
 refine zaq rfl rfl rfl (fun h3 => ?_) fun h3 => ?_
 ·have hlt : i < cs.length := by
   have : ((i : Nat) : Int) < ((cs.map fun c => ([vsI c] : List AV)).length : Nat) := of_decide_eq_true h3
   rw [hcl] at this
   omega
  have hlen := zmn (cs.take i) [[]] 1 (fun c h => hc c (List.mem_of_mem_take h)) (Nat.le_refl _)
  rw [List.length_take, Nat.min_eq_left hi] at hlen
  have hb : (cmb [[]] (cs.take i)).length * cs[i].length ≤ 1000000 := by
   rw [← zpw, ← zmo cs [[]] i hlt]
   have h9 := zmn (cs.take (i + 1)) [[]] 1 (fun c h => hc c (List.mem_of_mem_take h)) (Nat.le_refl _)
   rw [List.length_take, Nat.min_eq_left hlt] at h9
   have := pow9 (show i + 1 ≤ 6 by omega)
   omega
  have hr := zpp (cs.take i) [[]] 0 (fun p hp => by obtain rfl := List.mem_singleton.1 hp; rfl)
  have ht := zmo cs [[]] i hlt
  generalize cmb [[]] (cs.take i) = out at *
  repeat (first | refine za6 ?_ | refine za0 rfl ?_ | refine za3 ?_ | refine za2 ?_ | refine zab ?_ | refine zac ?_ | refine zaz rfl ?_ | refine za4 rfl ?_)
  refine loop83_2 (out := out) hlt hb (fun p hp => by have := hr p hp; rw [List.length_take] at this; omega) (.cons rfl (.same rfl) (.cons rfl (.same rfl) (.cons rfl (.same rfl) (.cons rfl (.grow rfl) (.cons rfl (.same rfl) .nil))))) (by have := pow9 (show i ≤ 6 by omega); omega) ?_
  repeat (first | refine za0 rfl ?_ | refine za3 ?_ | refine za2 ?_ | refine zb2 ?_ | refine za4 rfl ?_ | refine zax (op := .add) rfl rfl rfl ?_)
  rw [zan i (by omega)]
  have hfz : RenW [] [(0, 0, zgd (ext out cs[i]))] (.ms 0 0 1 0 (ext out cs[i]).length none) (css (ext out cs[i])) := by
   rw [zin]
   exact .fms1 rfl (List.length_map ..)
  refine zat (show cs.length - (i + 1) < cs.length - i by omega) (zbc [] [(0, 0, zgd (ext out cs[i]))] rfl rfl rfl (.cons rfl (zcs _) .nil) .nil (l' := [(0, css cs), (3, css (ext out cs[i])), (4, .int .i64 ((i + 1 : Nat) : Int))]) (.cons rfl (.same rfl) (.cons rfl hfz (.cons rfl (.same rfl) .nil)))) ⟨i + 1, rfl, hlt, by rw [ht]; rfl⟩
 ·have hi2 : i = cs.length := by
   have : ¬ ((i : Nat) : Int) < ((cs.map fun c => ([vsI c] : List AV)).length : Nat) := of_decide_eq_false h3
   rw [hcl] at this
   omega
  subst hi2
  rw [List.take_length, zk3]
  repeat (first | refine za3 ?_ | refine za2 ?_ | refine zb8 rfl ?_ | refine zb7 ?_ | refine zaf ?_)
  refine zc4 ?_
  repeat (first | refine za6 ?_ | refine za0 rfl ?_ | refine za3 ?_ | refine za2 ?_ | refine zak ?_ | refine zb6 ?_ | refine za4 rfl ?_)
  exact zai ⟨.inr rfl, _, rfl, rfl⟩
end
end Go.Proofs.Ytoiblgbaeglgoaa
namespace Go.Proofs.Ytoiblgbaeglgoaa
open Go Go.Am
end Go.Proofs.Ytoiblgbaeglgoaa
namespace Go.Proofs.Ytoiblgbaeglgoaa
open Go Go.Am
-- slices.Clone[[]pneumatic/api.Expr,pneumatic/api.Expr]
-- slices.Delete[[]pneumatic/api.Expr,pneumatic/api.Expr]
end Go.Proofs.Ytoiblgbaeglgoaa
