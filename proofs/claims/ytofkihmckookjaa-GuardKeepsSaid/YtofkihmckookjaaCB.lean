/-
  C5, C6, TB, D1 in one text.
-/
import Derived.Test.YtofkihmckookjaaCA
import Derived.KernelRfl
import Derived.Test.YtofkihmckookjaaQD
import Derived.Test.YtofkihmckookjaaA9
namespace Go.Proofs.Ytofkihmckookjaa
open Go Go.Am

def b83_4 : IC := .seq (.seq (.region [⟨(some 21), .mov (.t 7), none⟩,
    ⟨(some 22), .mov (.t 0), none⟩,
    ⟨(some 23), .mov (.t 4), none⟩,
    ⟨(some 24), .idxs 1 (.t 22) (.t 23), none⟩,
    ⟨(some 25), .load none (.t 24), none⟩,
    ⟨(some 26), .len false (.t 25), none⟩,
    ⟨(some 27), .bin .lss (.t 21) (.t 26), none⟩] none)
  (.cond (.t 27) (.skip)
  (.exit 4)))
  (.seq (.block 5 (.region [⟨(some 30), .mov (.t 5), none⟩,
    ⟨(some 31), .bslice 1 0 [] [], none⟩,
    ⟨(some 32), .mov (.t 3), none⟩,
    ⟨(some 33), .mov (.t 6), none⟩,
    ⟨(some 34), .idxs 1 (.t 32) (.t 33), none⟩,
    ⟨(some 35), .load none (.t 34), none⟩,
    ⟨(some 36), .append 1 8 [.int .i64 0] (.t 31) (.t 35), none⟩,
    ⟨(some 37), .mov (.t 0), none⟩,
    ⟨(some 38), .mov (.t 4), none⟩,
    ⟨(some 39), .idxs 1 (.t 37) (.t 38), none⟩,
    ⟨(some 40), .load none (.t 39), none⟩,
    ⟨(some 41), .mov (.t 7), none⟩,
    ⟨(some 42), .idxs 1 (.t 40) (.t 41), none⟩,
    ⟨(some 43), .load none (.t 42), none⟩,
    ⟨(some 44), .bslice 1 1 [.int .i64 0] [(0, 1, (.t 43))], none⟩,
    ⟨(some 45), .append 1 8 [.int .i64 0] (.t 36) (.t 44), none⟩,
    ⟨(some 46), .bslice 1 1 [.nils] [(0, 1, (.t 45))], none⟩,
    ⟨(some 47), .append 1 24 [.nils] (.t 30) (.t 46), none⟩,
    ⟨(some 5), .mov (.t 47), none⟩] (some [[], [], [], [], [2, 3], [4], [1, 5], [], [], [7, 8], [9], [], [10, 11], [12], [13], [6, 14, 6], [15], [0, 16, 15], [17, 17, 0, 1, 2, 3, 4, 5, 6, 7, 8, 9, 10, 11, 12, 13, 14, 15, 16, 17]])))
  (.region [⟨(some 28), .mov (.t 7), none⟩,
    ⟨(some 29), .bin .add (.t 28) (.c (.int .i64 1)), none⟩,
    ⟨(some 7), .mov (.t 29), none⟩] none))

def b83_2 : IC := .seq (.seq (.region [⟨(some 15), .mov (.t 6), none⟩,
    ⟨(some 16), .mov (.t 3), none⟩,
    ⟨(some 17), .len false (.t 16), none⟩,
    ⟨(some 18), .bin .lss (.t 15) (.t 17), none⟩] none)
  (.cond (.t 18) (.skip)
  (.exit 2)))
  (.seq (.block 3 (.seq (.region [⟨(some 7), .mov (.c (.int .i64 0)), none⟩] none)
  (.block 4 (.loop b83_4))))
  (.region [⟨(some 19), .mov (.t 6), none⟩,
    ⟨(some 20), .bin .add (.t 19) (.c (.int .i64 1)), none⟩,
    ⟨(some 6), .mov (.t 20), none⟩] none))

def b83_0 : IC := .seq (.seq (.region [⟨(some 9), .mov (.t 4), none⟩,
    ⟨(some 10), .mov (.t 0), none⟩,
    ⟨(some 11), .len false (.t 10), none⟩,
    ⟨(some 12), .bin .lss (.t 9) (.t 11), none⟩] none)
  (.cond (.t 12) (.skip)
  (.exit 0)))
  (.seq (.block 1 (.seq (.region [⟨(some 5), .mov (.c (.nils)), none⟩] none)
  (.seq (.seq (.region [⟨(some 6), .mov (.c (.int .i64 0)), none⟩] none)
  (.block 2 (.loop b83_2)))
  (.region [⟨(some 48), .mov (.t 5), none⟩,
    ⟨(some 3), .mov (.t 48), none⟩] none))))
  (.region [⟨(some 13), .mov (.t 4), none⟩,
    ⟨(some 14), .bin .add (.t 13) (.c (.int .i64 1)), none⟩,
    ⟨(some 4), .mov (.t 14), none⟩] none))

-- pneumatic/pneumaticref49.Combined
def ic83 : IC := .seq (.region [⟨(some 2), .mov (.c (.nils)), none⟩] none)
  (.seq (.region [⟨(some 8), .bslice 1 1 [.nils] [(0, 1, (.c (.nils)))], none⟩,
    ⟨(some 3), .mov (.t 8), none⟩] none)
  (.seq (.seq (.region [⟨(some 4), .mov (.c (.int .i64 0)), none⟩] none)
  (.block 0 (.loop b83_0)))
  (.seq (.region [⟨(some 49), .mov (.t 3), none⟩,
    ⟨(some 2), .mov (.t 49), none⟩] none)
  (.ret))))
theorem fn83 : env0.fn 83 = some ⟨50, ic83, [.t 2]⟩ := by kernel_rfl


def ext (out : List (List Int)) (c : List Int) : List (List Int) := out.flatMap fun p => c.map fun x => p ++ [x]

def cmb : List (List Int) → List (List Int) → List (List Int)
  | out, [] => out
  | out, c :: cs => cmb (ext out c) cs

theorem cmb_eq : ∀ (cs out : List (List Int)), cmb out cs = out.flatMap fun p => (combs cs).map (p ++ ·)
  | [], out => by
    rw [cmb, combs]
    induction out with
    | nil => rfl
    | cons p out ih =>
      rw [List.flatMap_cons, ← ih]
      simp
  | c :: cs, out => by
    rw [cmb, cmb_eq cs, ext, List.flatMap_assoc]
    congr 1
    funext p
    rw [combs, List.flatMap_map, List.map_flatMap]
    congr 1
    funext x
    rw [List.map_map]
    apply List.map_congr_left
    intro l _
    simp

theorem cmb_combs (cs : List (List Int)) : cmb [[]] cs = combs cs := by
  rw [cmb_eq]
  simp

def rowI (out : List (List Int)) : List AV := out.map vsI

theorem css_row (out : List (List Int)) : css out = .vs ((rowI out).map fun v => [v]) := by
  unfold css rowI
  rw [List.map_map]
  rfl

theorem rowI_hasM : ∀ out : List (List Int), hasM.hasML (rowI out) = false
  | [] => rfl
  | p :: out => by
    have := rowI_hasM out
    show (hasM (vsI p) || hasM.hasML (rowI out)) = false
    rw [this]
    rfl

theorem ext_len (out : List (List Int)) (c : List Int) : (ext out c).length = out.length * c.length := by
  unfold ext
  induction out with
  | nil => simp
  | cons p out ih => rw [List.flatMap_cons, List.length_append, List.length_map, ih, List.length_cons, Nat.succ_mul]; omega

theorem flat_ints (l : List Int) : (l.map (AV.int .i64)) = (l.map fun z => ([.int .i64 z] : List AV)).flatten := by
  induction l with
  | nil => rfl
  | cons z l ih => simpa using ih

theorem ints_cell : ∀ l : List Int, (l.map (AV.int .i64)).all AV.isCell = true
  | [] => rfl
  | z :: l => by
    simp [AV.isCell]

section
variable {w0 : World} {N0 : Nat} {k : List Fr} {Q : Exit → AS → Prop}

/-- The elements of one list behind one list before. -/
theorem loop83_4 {y : IC} {cs out nxt : List (List Int)} {ci ki : Nat} (h1 : ci < cs.length) (h2 : ki < out.length) (hb : nxt.length + cs[ci].length ≤ 1000000) (hp : out[ki].length ≤ 1000)
    (fin : ∀ sp, Zm Try.prog w0 N0 none y (st 50 [(0, css cs), (3, css out), (4, .int .i64 (ci : Nat)), (5, .ms 0 sp 1 0 (nxt ++ cs[ci].map fun x => out[ki] ++ [x]).length none), (6, .int .i64 (ki : Nat))] [(0, sp, .cells (rowI (nxt ++ cs[ci].map fun x => out[ki] ++ [x])))] 1 1) k Q) :
    Zm Try.prog w0 N0 none (.loop b83_4) (st 50 [(0, css cs), (3, css out), (4, .int .i64 (ci : Nat)), (5, .ms 0 0 1 0 nxt.length none), (6, .int .i64 (ki : Nat)), (7, .int .i64 0)] [(0, 0, .cells (rowI nxt))] 1 1) (.blk 4 :: .blk 3 :: .seq y :: k) Q := by
  have hcl : (cs.map fun c => ([vsI c] : List AV)).length = cs.length := List.length_map ..
  have hg := css_get h1
  have hg2 := css_get h2
  generalize hc : cs[ci] = c at *
  generalize ho : out[ki] = p at *
  refine z_loop (fun mm S => ∃ j, mm = c.length - j ∧ j ≤ c.length ∧ S = st 50 [(0, css cs), (3, css out), (4, .int .i64 (ci : Nat)), (5, .ms 0 0 1 0 (nxt ++ (c.take j).map fun x => p ++ [x]).length none), (6, .int .i64 (ki : Nat)), (7, .int .i64 (j : Nat))] [(0, 0, .cells (rowI (nxt ++ (c.take j).map fun x => p ++ [x])))] 1 1) c.length
    (sub_keep (.cons rfl (.cons rfl (.cons rfl (.cons rfl (.cons rfl (.cons rfl .nil))))))) ⟨0, rfl, Nat.zero_le _, by rw [List.take_zero, List.map_nil, List.append_nil]⟩ ?_
  rintro mm S ⟨j, rfl, hj, rfl⟩
  unfold b83_4
  have hvl : (c.map fun z => ([.int .i64 z] : List AV)).length = c.length := List.length_map ..
  unfold vsI at hg hg2
  repeat (first | refine z_seq ?_ | refine z_region rfl ?_ | refine o_mov rfl ?_ | refine o_load rfl rfl ?_ | refine o_len rfl rfl ?_ | refine o_idxs rfl rfl (by omega) (by assumption) rfl ?_)
  refine o_cmp rfl rfl rfl (fun h3 => ?_) fun h3 => ?_
  · have hlt : j < c.length := by
      have : ((j : Nat) : Int) < ((c.map fun z => ([.int .i64 z] : List AV)).length : Nat) := of_decide_eq_true h3
      rw [hvl] at this
      omega
    have hgx := vsI_get c j hlt
    have ht : (c.take (j + 1)).map (fun x => p ++ [x]) = (c.take j).map (fun x => p ++ [x]) ++ [p ++ [c[j]]] := by
      rw [List.take_add_one, List.getElem?_eq_getElem hlt, List.map_append]
      rfl
    generalize hx : c[j] = x at hgx ht
    have hnl : (rowI (nxt ++ (c.take j).map fun x => p ++ [x])).length = (nxt ++ (c.take j).map fun x => p ++ [x]).length := List.length_map ..
    have hnl2 : (nxt ++ (c.take j).map fun x => p ++ [x]).length ≤ 1000000 := by rw [List.length_append, List.length_map, List.length_take]; omega
    have hnM := rowI_hasM (nxt ++ (c.take j).map fun x => p ++ [x])
    generalize hN : nxt ++ (c.take j).map (fun x => p ++ [x]) = N' at hnl hnl2 hnM
    have hN1 : nxt ++ (c.take (j + 1)).map (fun x => p ++ [x]) = N' ++ [p ++ [x]] := by rw [ht, ← List.append_assoc, hN]
    have hrow : rowI (N' ++ [p ++ [x]]) = rowI N' ++ [vsI (p ++ [x])] := by unfold rowI; rw [List.map_append]; rfl
    repeat (first | refine o_nil ?_ | refine u_seq ?_ | refine z_seq ?_ | refine z_ct rfl ?_ | refine z_skip ?_ | refine z_block ?_)
    refine z_drawnF env0_ok (fun d => Nat.beq d 44) false [] (fun _ hx => absurd hx List.not_mem_nil) (fun _ => false) [] (fun _ hx => absurd hx List.not_mem_nil) (fun _ => false) rfl rfl rfl ?_
    refine o_mov rfl (o_nslice rfl rfl rfl (o_mov rfl (o_mov rfl (o_idxs rfl rfl (by omega) hg2 rfl (o_load rfl rfl ?_)))))
    cases p with
    | nil =>
      refine o_append rfl rfl rfl rfl ?_
      refine o_mov rfl (o_mov rfl (o_idxs rfl rfl (by omega) hg rfl (o_load rfl rfl (o_mov rfl (o_idxs rfl rfl (by omega) hgx rfl (o_load rfl rfl ?_))))))
      refine o_fslice rfl rfl rfl rfl rfl ?_
      refine o_append rfl rfl rfl rfl ?_
      refine o_nslice rfl rfl rfl ?_
      refine o_append_ms [[_]] rfl rfl rfl (fun h => Nat.noConfusion h) rfl (by decide) rfl (by rw [hnl, Nat.mul_one]) (by show _ + 1 ≤ _; omega) ?_
      repeat (first | refine z_region rfl ?_ | refine o_nil ?_ | refine u_seq ?_ | refine u_blk ?_ | refine o_mov rfl ?_ | refine o_bin (op := .add) rfl rfl rfl ?_)
      rw [wrap_succ j (by omega)]
      refine u_round (show c.length - (j + 1) < c.length - j by omega) (sub_renw [(some (0, 4), rowI N' ++ [vsI ([] ++ [x])])] [(2, 2, [.int .i64 x])] rfl rfl rfl (.cons rfl rfl .nil) (.cons rfl (.snoc hnM (.fms (cs := [.int .i64 x]) (xs := [[.int .i64 x]]) rfl rfl (fun y hy => by obtain rfl := List.mem_singleton.1 hy; rfl) ⟨[], rfl⟩)) .nil) (.cons rfl (.same rfl) (.cons rfl (.same rfl) (.cons rfl (.same rfl) (.cons rfl (.ms rfl) (.cons rfl (.same rfl) (.cons rfl (.same rfl) .nil)))))))
        ⟨j + 1, rfl, hlt, by rw [hN1, hrow, List.length_append]; rfl⟩
    | cons p0 p =>
      have hpf : ((p0 :: p).map fun z => ([.int .i64 z] : List AV)).flatten = (p0 :: p).map (AV.int .i64) := (flat_ints _).symm
      have hpl : ((p0 :: p).map fun z => ([.int .i64 z] : List AV)).length = (p0 :: p).length := List.length_map ..
      refine o_append_new (((p0 :: p).map fun z => ([.int .i64 z] : List AV))) rfl rfl (elems_vs fun x hx => by obtain ⟨z, _, rfl⟩ := List.mem_map.1 hx; rfl) (by rw [hpl]; exact Nat.succ_ne_zero _) (by rw [hpf]; exact ints_cell _) (by decide) rfl (by omega) ?_
      rw [hpf, hpl]
      refine o_mov rfl (o_mov rfl (o_idxs rfl rfl (by omega) hg rfl (o_load rfl rfl (o_mov rfl (o_idxs rfl rfl (by omega) hgx rfl (o_load rfl rfl ?_))))))
      refine o_fslice rfl rfl rfl rfl rfl ?_
      refine o_append_ms [[.int .i64 x]] rfl rfl rfl (fun h => Nat.noConfusion h) rfl (by decide) rfl (by rw [List.length_map, Nat.mul_one]) (by show _ + 1 ≤ _; omega) ?_
      refine o_nslice rfl rfl rfl ?_
      refine o_append_ms [[_]] rfl rfl rfl (fun h => Nat.noConfusion h) rfl (by decide) rfl (by rw [hnl, Nat.mul_one]) (by show _ + 1 ≤ _; omega) ?_
      repeat (first | refine z_region rfl ?_ | refine o_nil ?_ | refine u_seq ?_ | refine u_blk ?_ | refine o_mov rfl ?_ | refine o_bin (op := .add) rfl rfl rfl ?_)
      rw [wrap_succ j (by omega)]
      have hpx : (p0 :: p).map (AV.int .i64) ++ [.int .i64 x] = (p0 :: p ++ [x]).map (AV.int .i64) := by rw [List.map_append]; rfl
      refine u_round (show c.length - (j + 1) < c.length - j by omega) (sub_renw [(some (0, 5), rowI N' ++ [vsI (p0 :: p ++ [x])])] [(2, 3, (p0 :: p).map (AV.int .i64) ++ [.int .i64 x])] rfl rfl rfl (.cons rfl (hasML_append (hasML_ints _) rfl) .nil) (.cons rfl (.snoc hnM (.fms (cs := (p0 :: p).map (AV.int .i64) ++ [.int .i64 x]) (xs := (p0 :: p ++ [x]).map fun z => [.int .i64 z]) rfl ?_ (fun y hy => by obtain ⟨z, _, rfl⟩ := List.mem_map.1 hy; rfl) ⟨[], ?_⟩)) .nil) (.cons rfl (.same rfl) (.cons rfl (.same rfl) (.cons rfl (.same rfl) (.cons rfl (.ms rfl) (.cons rfl (.same rfl) (.cons rfl (.same rfl) .nil)))))))
        ⟨j + 1, rfl, hlt, by rw [hN1, hrow, List.length_append]; rfl⟩
      · simp
      · rw [List.drop_zero, List.append_nil, hpx, flat_ints]
  · have hj2 : j = c.length := by
      have : ¬ ((j : Nat) : Int) < ((c.map fun z => ([.int .i64 z] : List AV)).length : Nat) := of_decide_eq_false h3
      rw [hvl] at this
      omega
    subst hj2
    rw [List.take_length]
    refine o_nil (u_seq (z_cf rfl (z_exit (u_exit_seq (u_out (u_exit (u_blk (u_seq ?_))))))))
    exact z_sub (sub_keep (.cons rfl (.cons rfl (.cons rfl (.cons rfl (.cons rfl .nil)))))) (fin 0)

end
end Go.Proofs.Ytofkihmckookjaa
namespace Go.Proofs.Ytofkihmckookjaa
open Go Go.Am

section
variable {w0 : World} {N0 : Nat} {k : List Fr} {Q : Exit → AS → Prop}

theorem ext_take {out : List (List Int)} {c : List Int} {i : Nat} (h : i < out.length) : ext (out.take (i + 1)) c = ext (out.take i) c ++ c.map fun x => out[i] ++ [x] := by
  unfold ext
  rw [List.take_add_one, List.getElem?_eq_getElem h, List.flatMap_append]
  simp

/-- One list more: behind every list before. -/
theorem loop83_2 {y : IC} {cs out : List (List Int)} {ci : Nat} {l : List (Nat × AV)} {hp : List (Nat × Nat × AObj)} {nx ck : Nat} (h1 : ci < cs.length) (hb : out.length * cs[ci].length ≤ 1000000) (hp1 : ∀ p ∈ out, p.length ≤ 1000)
    (hl : RnA [(none, [])] [] l [(0, css cs), (3, css out), (4, .int .i64 (ci : Nat)), (5, .ms 0 0 1 0 0 none), (6, .int .i64 0)])
    (hol0 : out.length ≤ 1000000) (fin : Zm Try.prog w0 N0 none y (st 50 [(0, css cs), (4, .int .i64 (ci : Nat)), (5, .ms 0 0 1 0 (ext out cs[ci]).length none)] [(0, 0, .cells (rowI (ext out cs[ci])))] 1 1) k Q) :
    Zm Try.prog w0 N0 none (.loop b83_2) (st 50 l hp nx ck) (.blk 2 :: .seq y :: k) Q := by
  have hol : (out.map fun c => ([vsI c] : List AV)).length = out.length := List.length_map ..
  refine z_loop (fun mm S => ∃ i sp, mm = out.length - i ∧ i ≤ out.length ∧ S = st 50 [(0, css cs), (3, css out), (4, .int .i64 (ci : Nat)), (5, .ms 0 sp 1 0 (ext (out.take i) cs[ci]).length none), (6, .int .i64 (i : Nat))] [(0, sp, .cells (rowI (ext (out.take i) cs[ci])))] 1 1) out.length
    (sub_renw [(none, [])] [] rfl rfl rfl .nil (.new .nil) hl) ⟨0, 0, rfl, Nat.zero_le _, rfl⟩ ?_
  rintro mm S ⟨i, sp, rfl, hi, rfl⟩
  unfold b83_2
  repeat (first | refine z_seq ?_ | refine z_region rfl ?_ | refine o_mov rfl ?_ | refine o_len rfl rfl ?_)
  refine o_cmp rfl rfl rfl (fun h3 => ?_) fun h3 => ?_
  · have hlt : i < out.length := by
      have : ((i : Nat) : Int) < ((out.map fun c => ([vsI c] : List AV)).length : Nat) := of_decide_eq_true h3
      rw [hol] at this
      omega
    have hxl := ext_len (out.take i) cs[ci]
    have hbl : (ext (out.take i) cs[ci]).length + cs[ci].length ≤ 1000000 := by
      rw [hxl, List.length_take, Nat.min_eq_left (Nat.le_of_lt hlt), ← Nat.succ_mul]
      exact Nat.le_trans (Nat.mul_le_mul_right _ hlt) hb
    repeat (first | refine o_nil ?_ | refine u_seq ?_ | refine z_seq ?_ | refine z_ct rfl ?_ | refine z_skip ?_ | refine z_block ?_ | refine z_region rfl ?_ | refine o_mov rfl ?_)
    refine z_renw [(some (0, sp), rowI (ext (out.take i) cs[ci]))] [] [(0, css cs), (3, css out), (4, .int .i64 (ci : Nat)), (5, .ms 0 0 1 0 (ext (out.take i) cs[ci]).length none), (6, .int .i64 (i : Nat)), (7, .int .i64 0)] rfl .nil (.cons rfl (.keep (rowI_hasM _)) .nil) (.cons rfl (.same rfl) (.cons rfl (.same rfl) (.cons rfl (.same rfl) (.cons rfl (.ms rfl) (.cons rfl (.same rfl) (.cons rfl (.same rfl) .nil)))))) ?_
    refine loop83_4 h1 hlt hbl (hp1 _ (List.getElem_mem hlt)) fun sp2 => ?_
    repeat (first | refine z_region rfl ?_ | refine o_nil ?_ | refine o_mov rfl ?_ | refine o_bin (op := .add) rfl rfl rfl ?_)
    rw [wrap_succ i (by omega)]
    exact u_round (show out.length - (i + 1) < out.length - i by omega) (sub_renw [(some (0, sp2), rowI (ext (out.take (i + 1)) cs[ci]))] [] rfl rfl rfl .nil (.cons (by rw [ext_take hlt]; rfl) (.keep (rowI_hasM _)) .nil) (.cons rfl (.same rfl) (.cons rfl (.same rfl) (.cons rfl (.same rfl) (.cons (by rw [ext_take hlt]; rfl) (.ms rfl) (.cons rfl (.same rfl) .nil)))))) ⟨i + 1, 0, rfl, hlt, rfl⟩
  · have hi2 : i = out.length := by
      have : ¬ ((i : Nat) : Int) < ((out.map fun c => ([vsI c] : List AV)).length : Nat) := of_decide_eq_false h3
      rw [hol] at this
      omega
    subst hi2
    rw [List.take_length]
    refine o_nil (u_seq (z_cf rfl (z_exit (u_exit_seq (u_out (u_exit (u_seq ?_)))))))
    exact z_renw [(some (0, sp), rowI (ext out cs[ci]))] [] [(0, css cs), (4, .int .i64 (ci : Nat)), (5, .ms 0 0 1 0 (ext out cs[ci]).length none)] rfl .nil (.cons rfl (.keep (rowI_hasM _)) .nil) (.cons rfl (.same rfl) (.cons rfl (.same rfl) (.cons rfl (.ms rfl) .nil))) fin

theorem cmb_take : ∀ (cs out : List (List Int)) (i : Nat) (h : i < cs.length), cmb out (cs.take (i + 1)) = ext (cmb out (cs.take i)) cs[i]
  | c :: cs, out, 0, _ => rfl
  | c :: cs, out, i + 1, h => by
    rw [List.take_succ_cons, List.take_succ_cons, cmb, cmb]
    exact cmb_take cs _ i (by simpa using h)

theorem cmb_len : ∀ (cs out : List (List Int)) (m : Nat), (∀ c ∈ cs, c.length ≤ 9) → out.length ≤ m → (cmb out cs).length ≤ m * 9 ^ cs.length
  | [], out, m, _, h => by rw [cmb]; simpa using h
  | c :: cs, out, m, hc, h => by
    rw [cmb]
    have := cmb_len cs (ext out c) (m * 9) (fun c h => hc c (List.mem_cons_of_mem _ h)) (by
      rw [ext_len]
      exact Nat.mul_le_mul h (hc c (List.mem_cons_self ..)))
    rw [List.length_cons, Nat.pow_succ, Nat.mul_comm (9 ^ cs.length) 9, ← Nat.mul_assoc]
    exact this

theorem ext_row {out : List (List Int)} {c : List Int} {m : Nat} (h : ∀ p ∈ out, p.length = m) : ∀ p ∈ ext out c, p.length = m + 1 := by
  intro p hp
  unfold ext at hp
  obtain ⟨q, hq, hp⟩ := List.mem_flatMap.1 hp
  obtain ⟨x, _, rfl⟩ := List.mem_map.1 hp
  rw [List.length_append, h q hq]
  rfl

theorem cmb_row : ∀ (cs out : List (List Int)) (m : Nat), (∀ p ∈ out, p.length = m) → ∀ p ∈ cmb out cs, p.length = m + cs.length
  | [], out, m, h => by rw [cmb]; simpa using h
  | c :: cs, out, m, h => by
    intro p hp
    rw [cmb] at hp
    rw [cmb_row cs _ (m + 1) (ext_row h) p hp, List.length_cons]
    omega

theorem pow9 {i : Nat} (h : i ≤ 6) : 9 ^ i ≤ 531441 := by
  have := Nat.pow_le_pow_right (show 0 < 9 by decide) h
  simpa using this

/-- Combined: all lists with an element of each list, in order. -/
theorem combined83 (cs : List (List Int)) (hn : cs.length ≤ 6) (hc : ∀ c ∈ cs, c.length ≤ 9) : PF Try.prog 83 [css cs] (css (combs cs)) := by
  have hcl : (cs.map fun c => ([vsI c] : List AV)).length = cs.length := List.length_map ..
  refine PF_of_Z env0_ok fn83 [(0, css cs)] (by show 1 ≤ 50; decide) rfl fun w0 N0 => ?_
  unfold ic83
  repeat (first | refine z_seq ?_ | refine z_region rfl ?_ | refine o_nil ?_ | refine u_seq ?_ | refine z_block ?_ | refine o_mov rfl ?_ | refine o_bslice rfl rfl ?_)
  refine z_renw [(some (0, 0), [.vs []])] [] [(0, css cs), (3, .ms 0 0 1 0 1 (some 1)), (4, .int .i64 0)] rfl .nil (.cons rfl (.cons .nilvs .nil) .nil) (.cons rfl (.same rfl) (.cons rfl (.ms rfl) (.cons rfl (.same rfl) .nil))) ?_
  refine z_loop (fun mm S => ∃ i, mm = cs.length - i ∧ i ≤ cs.length ∧ S = st 50 [(0, css cs), (3, css (cmb [[]] (cs.take i))), (4, .int .i64 (i : Nat))] [] 0 1) cs.length
    (sub_renw [] [(0, 0, [.vs []])] rfl rfl rfl (.cons rfl rfl .nil) .nil (.cons rfl (.same rfl) (.cons rfl (.fms (cs := [.vs []]) (xs := [[.vs []]]) rfl rfl (fun y hy => by obtain rfl := List.mem_singleton.1 hy; rfl) ⟨[], rfl⟩) (.cons rfl (.same rfl) .nil)))) ⟨0, rfl, Nat.zero_le _, rfl⟩ ?_
  rintro mm S ⟨i, rfl, hi, rfl⟩
  unfold b83_0
  repeat (first | refine z_seq ?_ | refine z_region rfl ?_ | refine o_mov rfl ?_ | refine o_len rfl rfl ?_)
  refine o_cmp rfl rfl rfl (fun h3 => ?_) fun h3 => ?_
  · have hlt : i < cs.length := by
      have : ((i : Nat) : Int) < ((cs.map fun c => ([vsI c] : List AV)).length : Nat) := of_decide_eq_true h3
      rw [hcl] at this
      omega
    have hlen := cmb_len (cs.take i) [[]] 1 (fun c h => hc c (List.mem_of_mem_take h)) (Nat.le_refl _)
    rw [List.length_take, Nat.min_eq_left hi] at hlen
    have hb : (cmb [[]] (cs.take i)).length * cs[i].length ≤ 1000000 := by
      rw [← ext_len, ← cmb_take cs [[]] i hlt]
      have h9 := cmb_len (cs.take (i + 1)) [[]] 1 (fun c h => hc c (List.mem_of_mem_take h)) (Nat.le_refl _)
      rw [List.length_take, Nat.min_eq_left hlt] at h9
      have := pow9 (show i + 1 ≤ 6 by omega)
      omega
    have hr := cmb_row (cs.take i) [[]] 0 (fun p hp => by obtain rfl := List.mem_singleton.1 hp; rfl)
    have ht := cmb_take cs [[]] i hlt
    generalize cmb [[]] (cs.take i) = out at *
    repeat (first | refine z_seq ?_ | refine z_region rfl ?_ | refine o_nil ?_ | refine u_seq ?_ | refine z_block ?_ | refine z_skip ?_ | refine z_ct rfl ?_ | refine o_mov rfl ?_)
    refine loop83_2 (out := out) hlt hb (fun p hp => by have := hr p hp; rw [List.length_take] at this; omega) (.cons rfl (.same rfl) (.cons rfl (.same rfl) (.cons rfl (.same rfl) (.cons rfl (.grow rfl) (.cons rfl (.same rfl) .nil))))) (by have := pow9 (show i ≤ 6 by omega); omega) ?_
    repeat (first | refine z_region rfl ?_ | refine o_nil ?_ | refine u_seq ?_ | refine u_blk ?_ | refine o_mov rfl ?_ | refine o_bin (op := .add) rfl rfl rfl ?_)
    rw [wrap_succ i (by omega)]
    have hfz : RenW [] [(0, 0, rowI (ext out cs[i]))] (.ms 0 0 1 0 (ext out cs[i]).length none) (css (ext out cs[i])) := by
      rw [css_row]
      exact .fms1 rfl (List.length_map ..)
    refine u_round (show cs.length - (i + 1) < cs.length - i by omega) (sub_renw [] [(0, 0, rowI (ext out cs[i]))] rfl rfl rfl (.cons rfl (rowI_hasM _) .nil) .nil (l' := [(0, css cs), (3, css (ext out cs[i])), (4, .int .i64 ((i + 1 : Nat) : Int))]) (.cons rfl (.same rfl) (.cons rfl hfz (.cons rfl (.same rfl) .nil)))) ⟨i + 1, rfl, hlt, by rw [ht]; rfl⟩
  · have hi2 : i = cs.length := by
      have : ¬ ((i : Nat) : Int) < ((cs.map fun c => ([vsI c] : List AV)).length : Nat) := of_decide_eq_false h3
      rw [hcl] at this
      omega
    subst hi2
    rw [List.take_length, cmb_combs]
    repeat (first | refine o_nil ?_ | refine u_seq ?_ | refine z_cf rfl ?_ | refine z_exit ?_ | refine u_exit_seq ?_)
    refine u_out ?_
    repeat (first | refine z_seq ?_ | refine z_region rfl ?_ | refine o_nil ?_ | refine u_seq ?_ | refine z_ret ?_ | refine u_exit ?_ | refine o_mov rfl ?_)
    exact u_end ⟨.inr rfl, _, rfl, rfl⟩

end
end Go.Proofs.Ytofkihmckookjaa
namespace Go.Proofs.Ytofkihmckookjaa
open Go Go.Am

def rowsR : List (List AV × AV) := [1, 2, 3, 4].map fun n => ([.vs [[vsI [0, 2]]], .int .i64 (n : Nat)], css (List.replicate n [0, 2]))
def rowsS : List (List AV × AV) := [1, 2, 3, 4].map fun n => ([.vs [[vsI [0, 1, 2]]], .int .i64 (n : Nat)], css (List.replicate n [0, 1, 2]))
def rowsQ : List (List AV × AV) := [1, 2, 3, 4].map fun n => ([vsI [0], .int .i64 (n : Nat)], vsI (List.replicate n 0))
def rowsA : List (List AV × AV) := [1, 2, 3, 4].map fun n => ([.int .i64 (n : Nat), vsI [0, 2]], css (List.replicate n [0, 2]))
def rowsB : List (List AV × AV) := [1, 2, 3, 4].map fun n => ([.int .i64 (n : Nat), vsI [0, 1, 2]], css (List.replicate n [0, 1, 2]))

def tabP : Tab := [(64, rowsR), (64, rowsS), (51, rowsQ), (92, rowsA), (92, rowsB)]

theorem tabP_ok : TabOk Try.prog tabP := TabOk.of_run (env0_ok.tab TabOk.nil (pure := [])) (n := 80) (by kernel_rfl)

theorem row_of {rows : Nat → List AV × AV} {n : Nat} (h1 : 1 ≤ n) (h4 : n ≤ 4) : rows n ∈ [1, 2, 3, 4].map rows := by
  rcases (show n = 1 ∨ n = 2 ∨ n = 3 ∨ n = 4 by omega) with rfl | rfl | rfl | rfl <;> simp

theorem rep64a {n : Nat} (h1 : 1 ≤ n) (h4 : n ≤ 4) : PF Try.prog 64 [.vs [[vsI [0, 2]]], .int .i64 (n : Nat)] (css (List.replicate n [0, 2])) :=
  tabP_ok (64, rowsR) (.head _) _ (row_of (rows := fun n => ([.vs [[vsI [0, 2]]], .int .i64 (n : Nat)], css (List.replicate n [0, 2]))) h1 h4)

theorem rep64b {n : Nat} (h1 : 1 ≤ n) (h4 : n ≤ 4) : PF Try.prog 64 [.vs [[vsI [0, 1, 2]]], .int .i64 (n : Nat)] (css (List.replicate n [0, 1, 2])) :=
  tabP_ok (64, rowsS) (.tail _ (.head _)) _ (row_of (rows := fun n => ([.vs [[vsI [0, 1, 2]]], .int .i64 (n : Nat)], css (List.replicate n [0, 1, 2]))) h1 h4)

theorem rep51 {n : Nat} (h1 : 1 ≤ n) (h4 : n ≤ 4) : PF Try.prog 51 [vsI [0], .int .i64 (n : Nat)] (vsI (List.replicate n 0)) :=
  tabP_ok (51, rowsQ) (.tail _ (.tail _ (.head _))) _ (row_of (rows := fun n => ([vsI [0], .int .i64 (n : Nat)], vsI (List.replicate n 0))) h1 h4)

theorem rep92a {n : Nat} (h1 : 1 ≤ n) (h4 : n ≤ 4) : PF Try.prog 92 [.int .i64 (n : Nat), vsI [0, 2]] (css (List.replicate n [0, 2])) :=
  tabP_ok (92, rowsA) (.tail _ (.tail _ (.tail _ (.head _)))) _ (row_of (rows := fun n => ([.int .i64 (n : Nat), vsI [0, 2]], css (List.replicate n [0, 2]))) h1 h4)

theorem rep92b {n : Nat} (h1 : 1 ≤ n) (h4 : n ≤ 4) : PF Try.prog 92 [.int .i64 (n : Nat), vsI [0, 1, 2]] (css (List.replicate n [0, 1, 2])) :=
  tabP_ok (92, rowsB) (.tail _ (.tail _ (.tail _ (.tail _ (.head _))))) _ (row_of (rows := fun n => ([.int .i64 (n : Nat), vsI [0, 1, 2]], css (List.replicate n [0, 1, 2]))) h1 h4)

-- pneumatic/pneumaticref49.all
def ic65 : IC := .seq (.region [⟨(some 4), .mov (.c (.nils)), none⟩] none)
  (.seq (.region [⟨(some 5), .mov (.t 0), none⟩,
    ⟨(some 6), .mov (.t 1), none⟩,
    ⟨(some 7), .call (.c (.fn 92 [] [])) [(.t 5), (.t 6)], none⟩,
    ⟨(some 8), .call (.c (.fn 83 [] [])) [(.t 7)], none⟩,
    ⟨(some 4), .mov (.t 8), none⟩] none)
  (.ret))
theorem fn65 : env0.fn 65 = some ⟨9, ic65, [.t 4]⟩ := by kernel_rfl


theorem all65 {n : Nat} {at_ : List Int} (h92 : PF Try.prog 92 [.int .i64 (n : Nat), vsI at_] (css (List.replicate n at_))) (h4 : n ≤ 4) (ha : at_.length ≤ 9) : PF Try.prog 65 [.int .i64 (n : Nat), vsI at_] (css (combs (List.replicate n at_))) := by
  have h83 := combined83 (List.replicate n at_) (by rw [List.length_replicate]; omega) (fun c hc => by obtain rfl := List.eq_of_mem_replicate hc; exact ha)
  refine PF_of_Z env0_ok fn65 [(0, .int .i64 (n : Nat)), (1, vsI at_)] (by show 2 ≤ 9; decide) rfl fun w0 N0 => ?_
  unfold ic65
  repeat (first | refine z_seq ?_ | refine z_region rfl ?_ | refine o_nil ?_ | refine u_seq ?_ | refine o_mov rfl ?_)
  refine o_call rfl rfl h92 (fun h => Bool.noConfusion (show false = true from h)) ?_
  refine o_call rfl rfl h83 (fun h => Bool.noConfusion (show false = true from h)) ?_
  repeat (first | refine o_nil ?_ | refine u_seq ?_ | refine z_ret ?_ | refine o_mov rfl ?_)
  exact u_end ⟨.inr rfl, _, rfl, rfl⟩

theorem all65a {n : Nat} (h1 : 1 ≤ n) (h4 : n ≤ 4) : PF Try.prog 65 [.int .i64 (n : Nat), vsI [0, 2]] (css (combs (List.replicate n [0, 2]))) := all65 (rep92a h1 h4) h4 (by decide)
theorem all65b {n : Nat} (h1 : 1 ≤ n) (h4 : n ≤ 4) : PF Try.prog 65 [.int .i64 (n : Nat), vsI [0, 1, 2]] (css (combs (List.replicate n [0, 1, 2]))) := all65 (rep92b h1 h4) h4 (by decide)

end Go.Proofs.Ytofkihmckookjaa
namespace Go.Proofs.Ytofkihmckookjaa
open Go Go.Am

-- slices.Clone[[]pneumatic/api.Expr,pneumatic/api.Expr]
def ic41 : IC := .seq (.region [⟨(some 2), .mov (.c (.nils)), none⟩] none)
  (.seq (.seq (.region [⟨(some 3), .mov (.t 0), none⟩,
    ⟨(some 4), .nilq false (.t 3), none⟩] none)
  (.cond (.t 4) (.seq (.region [⟨(some 2), .mov (.c (.nils)), none⟩] none)
  (.ret))
  (.skip)))
  (.seq (.region [⟨(some 5), .bslice 3 0 [] [], none⟩,
    ⟨(some 6), .mov (.t 0), none⟩,
    ⟨(some 7), .append 3 40 [.int .i64 0, .int .i64 0, .nils] (.t 5) (.t 6), none⟩,
    ⟨(some 2), .mov (.t 7), none⟩] none)
  (.ret)))
theorem fn41 : env0.fn 41 = some ⟨8, ic41, [.t 2]⟩ := by kernel_rfl


theorem cX_all (x : Ex) : (cX x).all AV.isCell = true := by cases x; rfl
theorem cX_hasM (x : Ex) : hasM.hasML (cX x) = false := by cases x; rfl

theorem cXs_cell (l : List Ex) : (cXs l).flatten.all AV.isCell = true := isCell_flat fun x hx => by
  rw [cXs_eq] at hx
  obtain ⟨y, _, rfl⟩ := List.mem_map.1 hx
  exact cX_all y

theorem cXs_hasM (l : List Ex) : hasM.hasML (cXs l).flatten = false := hasML_flat fun x hx => by
  rw [cXs_eq] at hx
  obtain ⟨y, _, rfl⟩ := List.mem_map.1 hx
  exact cX_hasM y

theorem cXs_size (l : List Ex) : ∀ x ∈ cXs l, x.length = 3 := fun x hx => by
  rw [cXs_eq] at hx
  obtain ⟨y, _, rfl⟩ := List.mem_map.1 hx
  exact cX_length y

/-- An own list of expressions. -/
def OwnX (v : AV) (l : List Ex) (H : HS) : Prop := ∃ id sp cap ys, v = .ms id sp 3 0 l.length cap ∧ id < H.next ∧ Am.look id H.heap = some (sp, .cells ((cXs l).flatten ++ ys))

/-- A copy: nothing, if there is nothing; else own memory. -/
theorem clone41 {w0 : World} {N0 : Nat} (l : List Ex) (hl : l.length ≤ 600) (H : HS) : FT Try.prog w0 N0 41 [.vs (cXs l)] H fun v H' => Keep (fun _ => False) H H' ∧ ((l = [] ∧ v = .nils) ∨ ∃ id sp cap ys, v = .ms id sp 3 0 l.length cap ∧ H.next ≤ id ∧ id < H'.next ∧ Am.look id H'.heap = some (sp, .cells ((cXs l).flatten ++ ys))) := by
  refine FT_of_Z env0_ok fn41 [(0, .vs (cXs l))] (by show 1 ≤ 8; decide) rfl ?_
  unfold ic41
  refine z_seq (z_region rfl (o_mov rfl (o_nil (u_seq (z_seq (z_seq (z_region rfl (o_mov rfl ?_))))))))
  cases l with
  | nil =>
    refine o_nilq (es := []) rfl fun b => ?_
    cases b
    · repeat (first | refine z_seq ?_ | refine z_region rfl ?_ | refine o_nil ?_ | refine u_seq ?_ | refine z_skip ?_ | refine z_cf rfl ?_ | refine z_ret ?_ | refine o_mov rfl ?_ | refine o_bslice rfl rfl ?_ | refine o_append rfl rfl rfl rfl ?_)
      exact u_end ⟨.inr rfl, _, rfl, ⟨Nat.le_succ _, Nat.le_succ _, fun i _ hi => look_new hi⟩, .inr ⟨_, _, _, [], rfl, Nat.le_refl _, Nat.lt_succ_self _, look_top⟩⟩
    · repeat (first | refine z_seq ?_ | refine z_region rfl ?_ | refine o_nil ?_ | refine u_seq ?_ | refine z_ct rfl ?_ | refine z_ret ?_ | refine u_ret_seq ?_ | refine o_mov rfl ?_)
      exact u_end ⟨.inr rfl, _, rfl, .refl _ _, .inl ⟨rfl, rfl⟩⟩
  | cons x l =>
    have hcl : (cXs (x :: l)).length = (x :: l).length := cXs_length _
    refine o_op (v := .bool false) (by rfl) ?_
    repeat (first | refine z_seq ?_ | refine z_region rfl ?_ | refine o_nil ?_ | refine u_seq ?_ | refine z_skip ?_ | refine z_cf rfl ?_ | refine o_mov rfl ?_ | refine o_bslice rfl rfl ?_)
    refine o_append_new (cXs (x :: l)) rfl rfl (elems_vs (cXs_size _)) (by rw [hcl]; exact Nat.succ_ne_zero _) (cXs_cell _) (by decide) look_top (by omega) ?_
    repeat (first | refine o_nil ?_ | refine u_seq ?_ | refine z_ret ?_ | refine o_mov rfl ?_)
    refine u_end ⟨.inr rfl, _, rfl, ⟨by show H.next ≤ H.next + 1 + 1; omega, by show H.clk ≤ H.clk + 1 + 1; omega, fun i _ hi => ?_⟩, .inr ⟨H.next + 1, H.clk + 1, none, [], ?_, ?_, Nat.lt_succ_self _, ?_⟩⟩
    · show Am.look i (_ :: _ :: _) = _
      rw [look_new (by omega), look_new hi]
    · rw [hcl]
    · exact Nat.le_succ _
    · rw [List.append_nil]; exact look_top

-- slices.Delete[[]pneumatic/api.Expr,pneumatic/api.Expr]
def ic66 : IC := .seq (.region [⟨(some 6), .mov (.c (.nils)), none⟩] none)
  (.seq (.region [⟨(some 8), .mov (.t 0), none⟩,
    ⟨(some 9), .mov (.t 1), none⟩,
    ⟨(some 10), .mov (.t 2), none⟩,
    ⟨(some 11), .mov (.t 0), none⟩,
    ⟨(some 12), .len false (.t 11), none⟩,
    ⟨(some 13), .slsl 3 (.t 8) (some (.t 9)) (some (.t 10)) (some (.t 12)), none⟩] none)
  (.seq (.seq (.region [⟨(some 14), .mov (.t 1), none⟩,
    ⟨(some 15), .mov (.t 2), none⟩,
    ⟨(some 16), .bin .eql (.t 14) (.t 15), none⟩] none)
  (.cond (.t 16) (.seq (.region [⟨(some 17), .mov (.t 0), none⟩,
    ⟨(some 6), .mov (.t 17), none⟩] none)
  (.ret))
  (.skip)))
  (.seq (.region [⟨(some 18), .mov (.t 0), none⟩,
    ⟨(some 19), .len false (.t 18), none⟩,
    ⟨(some 7), .mov (.t 19), none⟩] none)
  (.seq (.region [⟨(some 20), .mov (.t 0), none⟩,
    ⟨(some 21), .mov (.t 1), none⟩,
    ⟨(some 22), .slsl 3 (.t 20) none (some (.t 21)) none, none⟩,
    ⟨(some 23), .mov (.t 0), none⟩,
    ⟨(some 24), .mov (.t 2), none⟩,
    ⟨(some 25), .slsl 3 (.t 23) (some (.t 24)) none none, none⟩,
    ⟨(some 26), .append 3 40 [.int .i64 0, .int .i64 0, .nils] (.t 22) (.t 25), none⟩,
    ⟨(some 0), .mov (.t 26), none⟩] (some [[], [], [0, 1], [], [], [3, 4], [2, 5], [6, 6, 0, 1, 2, 3, 4, 5, 6]]))
  (.seq (.region [⟨(some 27), .mov (.t 0), none⟩,
    ⟨(some 28), .mov (.t 0), none⟩,
    ⟨(some 29), .len false (.t 28), none⟩,
    ⟨(some 30), .mov (.t 7), none⟩,
    ⟨(some 31), .slsl 3 (.t 27) (some (.t 29)) (some (.t 30)) none, none⟩,
    ⟨none, .clear 3 [.int .i64 0, .int .i64 0, .nils] (.t 31), none⟩] none)
  (.seq (.region [⟨(some 32), .mov (.t 0), none⟩,
    ⟨(some 6), .mov (.t 32), none⟩] none)
  (.ret)))))))
theorem fn66 : env0.fn 66 = some ⟨33, ic66, [.t 6]⟩ := by kernel_rfl


theorem cXs_drop (l : List Ex) (a : Nat) : (cXs l).drop a = cXs (l.drop a) := by rw [cXs_eq, cXs_eq, List.map_drop]
theorem cXs_erase (l : List Ex) (a : Nat) : (cXs l).eraseIdx a = cXs (l.eraseIdx a) := by
  rw [cXs_eq, cXs_eq, List.eraseIdx_eq_take_drop_succ, List.eraseIdx_eq_take_drop_succ, List.map_append, List.map_take, List.map_drop]

/-- Own memory without one element. -/
theorem delete66 {w0 : World} {N0 id sp : Nat} {cap : Option Nat} (l : List Ex) (ys : List AV) (hl : l.length ≤ 600) (a : Nat) (ha : a < l.length) (H : HS) (hlk : Am.look id H.heap = some (sp, .cells ((cXs l).flatten ++ ys))) (_hid : id < H.next) :
    FT Try.prog w0 N0 66 [.ms id sp 3 0 l.length cap, .int .i64 (a : Nat), .int .i64 ((a + 1 : Nat) : Int)] H fun v H' => Keep (fun i => i = id) H H' ∧ ∃ c ys', v = .ms id sp 3 0 (l.eraseIdx a).length (some c) ∧ Am.look id H'.heap = some (sp, .cells ((cXs (l.eraseIdx a)).flatten ++ ys')) := by
  refine FT_of_Z env0_ok fn66 [(0, .ms id sp 3 0 l.length cap), (1, .int .i64 (a : Nat)), (2, .int .i64 ((a + 1 : Nat) : Int))] (by show 3 ≤ 33; decide) rfl ?_
  have hel : (l.eraseIdx a).length = a + (l.length - (a + 1)) := by rw [List.length_eraseIdx, if_pos ha]; omega
  have hcl : (cXs l).length = l.length := cXs_length _
  have body : ∀ c : Nat, l.length ≤ c → Zm Try.prog w0 N0 (some none) ic66 (st 33 [(0, .ms id sp 3 0 l.length (some c)), (1, .int .i64 (a : Nat)), (2, .int .i64 ((a + 1 : Nat) : Int))] H.heap H.next H.clk) [] fun e S' => (e = .normal ∨ e = .ret) ∧ ∃ v, S'.leave.res [.t 6] = some v ∧ Keep (fun i => i = id) H S'.leave.hs ∧ ∃ c ys', v = .ms id sp 3 0 (l.eraseIdx a).length (some c) ∧ Am.look id S'.leave.hs.heap = some (sp, .cells ((cXs (l.eraseIdx a)).flatten ++ ys')) := by
    intro c hc
    unfold ic66
    repeat (first | refine z_seq ?_ | refine z_region rfl ?_ | refine o_nil ?_ | refine u_seq ?_ | refine o_mov rfl ?_ | refine o_len rfl rfl ?_)
    refine o_reslice3 rfl rfl rfl rfl (by omega) (by omega) (by omega) (by omega) ?_
    repeat (first | refine z_seq ?_ | refine z_region rfl ?_ | refine o_nil ?_ | refine u_seq ?_ | refine o_mov rfl ?_)
    refine o_cmp rfl rfl rfl (fun h => ?_) fun _ => ?_
    · have : ((a : Nat) : Int) = ((a + 1 : Nat) : Int) := by simpa using h
      omega
    repeat (first | refine z_seq ?_ | refine z_region rfl ?_ | refine o_nil ?_ | refine u_seq ?_ | refine z_skip ?_ | refine z_cf rfl ?_ | refine o_mov rfl ?_ | refine o_len rfl rfl ?_ | refine z_drawn0 env0_ok rfl rfl rfl ?_)
    refine o_slsl rfl rfl rfl rfl rfl (by omega) (by omega) (by omega) ?_
    repeat (first | refine o_mov rfl ?_)
    refine o_slsl rfl rfl rfl rfl rfl (by omega) (by omega) (by omega) ?_
    obtain ⟨ys1, e1, e2⟩ := flat_erase (ys := ys) (cXs_size l) (a := a) (by omega)
    have hdl : ((cXs l).drop (a + 1)).length = l.length - (a + 1) := by rw [List.length_drop, hcl]
    obtain ⟨hp1, k1, k2, k3, k4⟩ : ∃ hp1, (((cXs l).drop (a + 1)).length ≠ 0 → hp1 = putl id (sp, .cells (setAt (a * 3) ((cXs l).flatten ++ ys) ((cXs l).drop (a + 1)).flatten)) H.heap) ∧ (((cXs l).drop (a + 1)).length = 0 → hp1 = H.heap) ∧ Am.look id hp1 = some (sp, .cells ((cXs (l.eraseIdx a)).flatten ++ ys1)) ∧ ∀ i, i ≠ id → Am.look i hp1 = Am.look i H.heap := by
      by_cases h0 : ((cXs l).drop (a + 1)).length = 0
      · refine ⟨H.heap, fun h => absurd h0 h, fun _ => rfl, ?_, fun _ _ => rfl⟩
        rw [List.length_eq_zero_iff.1 h0, List.flatten_nil, setAt_nil] at e1
        rw [hlk, e1, cXs_erase]
      · refine ⟨_, fun _ => rfl, fun h => absurd h h0, ?_, fun i hi => ?_⟩
        · rw [look_putl, if_pos rfl, e1, cXs_erase]
        · rw [look_putl, if_neg fun e => hi e.symm]
    refine o_append_cap ((cXs l).drop (a + 1)) (len := a) (c := c) (cs := (cXs l).flatten ++ ys) rfl rfl (elems_tail (a := a + 1) hlk (cXs_size l) (by omega) (Nat.zero_add _) (by rw [hcl]; rfl)) (by rw [cXs_drop]; exact cXs_cell _) (by decide) hlk ?_ (by omega) (by omega) hp1 k1 k2 ?_
    · rw [List.length_append, flat_length (cXs_size l), hcl, hdl]
      have := Nat.mul_le_mul_right 3 (show a + (l.length - (a + 1)) ≤ l.length by omega)
      omega
    rw [hdl, ← hel]
    repeat (first | refine z_seq ?_ | refine z_region rfl ?_ | refine o_nil ?_ | refine u_seq ?_ | refine o_mov rfl ?_ | refine o_len rfl rfl ?_)
    refine o_reslice rfl rfl rfl rfl rfl (by omega) (by omega) (.inr ⟨c, rfl, by omega⟩) fun c' h1 h2 => ?_
    have hfl : ((cXs (l.eraseIdx a)).flatten).length = (l.eraseIdx a).length * 3 := by rw [flat_length (cXs_size _), cXs_length]
    obtain ⟨ys2, e3⟩ := setAt_behind (off := (l.eraseIdx a).length * 3) (xs := (cXs (l.eraseIdx a)).flatten) (ys := ys1) (vs := repl (((l.length : Nat) : Int).toNat - (l.eraseIdx a).length) [.int .i64 0, .int .i64 0, .nils]) (by rw [hfl]; exact Nat.le_refl _)
    refine o_clear rfl k3 ?_ rfl (by decide) rfl ?_
    · rw [List.length_append, hfl, e2, Nat.zero_add, Int.toNat_natCast, Int.toNat_natCast, hel]
      omega
    rw [Nat.zero_add, Int.toNat_natCast, e3]
    repeat (first | refine z_seq ?_ | refine z_region rfl ?_ | refine o_nil ?_ | refine u_seq ?_ | refine z_ret ?_ | refine o_mov rfl ?_)
    refine u_end ⟨.inr rfl, _, rfl, ⟨Nat.le_refl _, Nat.le_refl _, fun i hi _ => ?_⟩, c, ys2, rfl, ?_⟩
    · show Am.look i (putl id _ hp1) = _
      rw [look_putl, if_neg fun e => hi e.symm]
      exact k4 i hi
    · show Am.look id (putl id _ hp1) = _
      rw [look_putl, if_pos rfl]
  exact z_cap 0 rfl fun c hc => z_sub (sub_keep (.cons rfl (.cons rfl (.cons rfl .nil)))) (body c hc)

end Go.Proofs.Ytofkihmckookjaa
