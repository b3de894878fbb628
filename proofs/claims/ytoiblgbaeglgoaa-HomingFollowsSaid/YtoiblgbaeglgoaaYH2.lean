/-
  A STROKE THAT IS PERMITTED: homing.allowed, homing.may.
-/
import Derived.Test.YtoiblgbaeglgoaaYH1
import Derived.Test.YtoiblgbaeglgoaaYPA
namespace Go.Proofs.Ytoiblgbaeglgoaa
open Go Go.Am

def freeB (l : List Ex) (p : List Int) : Bool := (trues l p).isEmpty

-- pneumatic/homing.allowed
def ic94 : IC := .seq (.region [⟨(some 2), .box (.t 0), none⟩,
    ⟨(some 4), .mov (.c (.bool false)), none⟩] none)
  (.seq (.region [⟨(some 8), .load (some 1) (.t 2), none⟩,
    ⟨(some 9), .mov (.t 1), none⟩,
    ⟨(some 10), .call (.c (.fn 25 [] [])) [(.t 8), (.t 9)], none⟩,
    ⟨(some 7), .mov (.t 10), none⟩,
    ⟨(some 11), .extract (.t 7) 0, none⟩,
    ⟨(some 12), .extract (.t 7) 1, none⟩,
    ⟨(some 5), .mov (.t 11), none⟩,
    ⟨(some 6), .mov (.t 12), none⟩] none)
  (.seq (.region [⟨(some 13), .mov (.t 6), none⟩,
    ⟨(some 14), .bin .eql (.t 13) (.c (.int .i64 0)), none⟩,
    ⟨(some 15), .mov (.t 14), none⟩,
    ⟨(some 16), .mov (.t 5), some (15, true)⟩,
    ⟨(some 17), .pick (.t 15) (.t 16) (.c (.bool false)), none⟩,
    ⟨(some 4), .mov (.t 17), none⟩] none)
  (.ret)))
theorem fn94 : env0.fn 94 = some ⟨18, ic94, [.t 4]⟩ := by kernel_rfl

theorem allowed94 (l : List Ex) (hsl : ∀ y ∈ l, Slim y) (p : List Int) (hp : posC l p = 0) : PF Try.prog 94 [.agg [.vs (cXs l)], vsI p] (.bool (freeB l p)) := by
  have h := allowed24 l hsl p
  rw [allowedV, if_pos hp] at h
  unfold freeB
  refine PF_of_Z env0_ok fn94 [(0, .agg [.vs (cXs l)]), (1, vsI p)] (by show 2 ≤ 18; decide) rfl fun w0 N0 => ?_
  unfold ic94
  repeat (first | refine z_seq ?_ | refine z_region rfl ?_ | refine o_nil ?_ | refine u_seq ?_ | refine o_mov rfl ?_ | refine o_loadn rfl rfl rfl rfl ?_ | refine o_box rfl rfl ?_)
  refine o_call rfl rfl h (fun h => Bool.noConfusion (show false = true from h)) ?_
  repeat (first | refine z_seq ?_ | refine z_region rfl ?_ | refine o_nil ?_ | refine u_seq ?_ | refine z_ret ?_ | refine o_gy rfl ?_ | refine o_mov rfl ?_ | refine o_pickt rfl rfl ?_ | refine o_extract rfl rfl ?_ | refine o_cmpt rfl rfl rfl ?_)
  exact u_end ⟨.inr rfl, _, rfl, rfl⟩

theorem posL_pos : ∀ e : List Bool, posL (posE e) = 0
  | [] => rfl
  | b :: e => by
    show (if (if b then (2 : Int) else 0) < 0 ∨ (if b then (2 : Int) else 0) ≥ 4 then (1 : Int) else posL (posE e)) = 0
    rw [posL_pos e]
    cases b <;> rfl

theorem posL_set {z : Int} (h0 : 0 ≤ z) (h4 : z < 4) : ∀ (p : List Int) (i : Nat), posL p = 0 → posL (p.set i z) = 0
  | [], _, h => h
  | y :: p, 0, h => by
    rw [List.set_cons_zero]
    unfold posL at h ⊢
    rw [if_neg (by omega)]
    split at h
    · cases h
    · exact h
  | y :: p, i + 1, h => by
    rw [List.set_cons_succ]
    unfold posL at h ⊢
    split at h
    · cases h
    · rename_i hy
      rw [if_neg hy]
      exact posL_set h0 h4 p i h

def wayE (e : List Bool) (i : Nat) : List Int := (posE e).set i (if e.getD i false then 3 else 1)

def mayB (l : List Ex) (e : List Bool) (i : Nat) : Bool := freeB l (posE e) && freeB l (posE (flipE e i)) && freeB l (wayE e i)

theorem posE_len (e : List Bool) : (posE e).length = e.length := List.length_map ..

section
variable {l : List Ex} {e : List Bool} (hg : guardC l e.length = 0)
include hg

theorem posC_pos : posC l (posE e) = 0 := by
  unfold posC
  rw [posE_len, if_pos hg]
  exact posL_pos e

theorem posC_flip (i : Nat) : posC l (posE (flipE e i)) = 0 := by
  unfold posC
  rw [posE_len, flip_len, if_pos hg]
  exact posL_pos _

theorem posC_way (i : Nat) : posC l (wayE e i) = 0 := by
  unfold posC wayE
  rw [List.length_set, posE_len, if_pos hg]
  split
  · exact posL_set (by decide) (by decide) _ _ (posL_pos e)
  · exact posL_set (by decide) (by decide) _ _ (posL_pos e)

end

-- pneumatic/homing.may
def ic104 : IC := .seq (.region [⟨(some 4), .box (.t 0), none⟩,
    ⟨(some 8), .mov (.c (.bool false)), none⟩] none)
  (.seq (.seq (.region [⟨(some 10), .load (some 1) (.t 4), none⟩,
    ⟨(some 11), .mov (.t 1), none⟩,
    ⟨(some 12), .mov (.t 2), none⟩,
    ⟨(some 13), .call (.c (.fn 95 [] [])) [(.t 11), (.t 12)], none⟩,
    ⟨(some 14), .call (.c (.fn 94 [] [])) [(.t 10), (.t 13)], none⟩,
    ⟨(some 15), .un .not (.t 14), none⟩,
    ⟨(some 16), .mov (.t 15), none⟩,
    ⟨(some 17), .load (some 1) (.t 4), some (16, false)⟩,
    ⟨(some 18), .mov (.t 1), some (16, false)⟩,
    ⟨(some 19), .mov (.t 2), some (16, false)⟩,
    ⟨(some 20), .mov (.t 3), some (16, false)⟩,
    ⟨(some 21), .bin .shl (.c (.int .i64 1)) (.t 20), some (16, false)⟩,
    ⟨(some 22), .bin .xor (.t 19) (.t 21), some (16, false)⟩,
    ⟨(some 23), .call (.c (.fn 95 [] [])) [(.t 18), (.t 22)], some (16, false)⟩,
    ⟨(some 24), .call (.c (.fn 94 [] [])) [(.t 17), (.t 23)], some (16, false)⟩,
    ⟨(some 25), .un .not (.t 24), some (16, false)⟩,
    ⟨(some 26), .pick (.t 16) (.c (.bool true)) (.t 25), none⟩] (some [[], [], [], [1, 2], [0, 3, 3], [4], [5, 4], [6], [6], [6], [6], [10, 6], [9, 11, 6], [8, 12, 6, 6], [7, 13, 13, 6], [14, 6], [6, 15]]))
  (.cond (.t 26) (.seq (.region [⟨(some 8), .mov (.c (.bool false)), none⟩] none)
  (.ret))
  (.skip)))
  (.seq (.region [⟨(some 27), .mov (.t 1), none⟩,
    ⟨(some 28), .mov (.t 2), none⟩,
    ⟨(some 29), .call (.c (.fn 95 [] [])) [(.t 27), (.t 28)], none⟩,
    ⟨(some 9), .mov (.t 29), none⟩] none)
  (.seq (.seq (.region [⟨(some 30), .mov (.t 9), none⟩,
    ⟨(some 31), .mov (.t 3), none⟩,
    ⟨(some 32), .idxs 1 (.t 30) (.t 31), none⟩,
    ⟨(some 33), .load none (.t 32), none⟩,
    ⟨(some 34), .bin .eql (.t 33) (.c (.int .i64 0)), none⟩] none)
  (.cond (.t 34) (.region [⟨(some 35), .mov (.t 9), none⟩,
    ⟨(some 36), .mov (.t 3), none⟩,
    ⟨(some 37), .idxs 1 (.t 35) (.t 36), none⟩,
    ⟨none, .store 1 (.t 37) (.c (.int .i64 1)), none⟩] none)
  (.region [⟨(some 38), .mov (.t 9), none⟩,
    ⟨(some 39), .mov (.t 3), none⟩,
    ⟨(some 40), .idxs 1 (.t 38) (.t 39), none⟩,
    ⟨none, .store 1 (.t 40) (.c (.int .i64 3)), none⟩] none)))
  (.seq (.region [⟨(some 41), .load (some 1) (.t 4), none⟩,
    ⟨(some 42), .mov (.t 9), none⟩,
    ⟨(some 43), .call (.c (.fn 94 [] [])) [(.t 41), (.t 42)], none⟩,
    ⟨(some 8), .mov (.t 43), none⟩] none)
  (.ret)))))
theorem fn104 : env0.fn 104 = some ⟨44, ic104, [.t 8]⟩ := by kernel_rfl

theorem hasML_intl (l : List Int) : hasM.hasML (l.map (AV.int .i64)) = false := by
  induction l with
  | nil => rfl
  | cons z l ih => simp only [List.map_cons, hasM.hasML, ih]; rfl

theorem flat_intl (l : List Int) : (l.map (AV.int .i64)) = (l.map fun z => ([.int .i64 z] : List AV)).flatten := by
  induction l with
  | nil => rfl
  | cons z l ih => simpa using ih

theorem vsI_inj {a b : List Int} (h : vsI a = vsI b) : a = b := by
  injection h with h
  exact (List.map_inj_right fun x y hxy => by injection hxy with hxy; injection hxy).1 h

theorem may104 (l : List Ex) (hsl : ∀ y ∈ l, Slim y) (e : List Bool) (h1 : 1 ≤ e.length) (h4 : e.length ≤ 4) (hg : guardC l e.length = 0) (i : Nat) (hi : i < e.length) :
    PF Try.prog 104 [.agg [.vs (cXs l)], .int .i64 (e.length : Nat), .int .i64 (idxE e : Nat), .int .i64 (i : Nat)] (.bool (mayB l e i)) := by
  have a1 := allowed94 l hsl (posE e) (posC_pos hg)
  have a2 := allowed94 l hsl (posE (flipE e i)) (posC_flip hg i)
  have a3 := allowed94 l hsl (wayE e i) (posC_way hg i)
  have q1 := pos95 h1 h4
  have hf1 : 1 ≤ (flipE e i).length := by rw [flip_len]; exact h1
  have hf4 : (flipE e i).length ≤ 4 := by rw [flip_len]; exact h4
  have q2 := pos95 hf1 hf4
  rw [flip_len] at q2
  have hx := xorE h1 h4 hi
  have hs := shl1 (show i < 4 by omega)
  have hpl : (posE e).length = e.length := posE_len e
  have hgd : (posE e)[i]? = some (if e.getD i false then 2 else 0) := by
    rw [posE, List.getElem?_map, List.getD_eq_getElem?_getD]
    rw [List.getElem?_eq_getElem hi]
    rfl
  have hge : ((posE e).map (AV.int .i64))[i]? = some (.int .i64 (if e.getD i false then 2 else 0)) := by rw [List.getElem?_map, hgd]; rfl
  have hne := flip_ne h1 h4 hi
  unfold mayB
  generalize hb1 : freeB l (posE e) = b1 at *
  generalize hb2 : freeB l (posE (flipE e i)) = b2 at *
  refine PF_of_Z env0_ok fn104 [(0, .agg [.vs (cXs l)]), (1, .int .i64 (e.length : Nat)), (2, .int .i64 (idxE e : Nat)), (3, .int .i64 (i : Nat))] (by show 4 ≤ 44; decide) rfl fun w0 N0 => ?_
  unfold ic104
  repeat (first | refine z_seq ?_ | refine z_region rfl ?_ | refine o_nil ?_ | refine u_seq ?_ | refine o_mov rfl ?_ | refine o_box rfl rfl ?_)
  refine z_drawn env0_ok [(95, [.int .i64 (e.length : Nat), .int .i64 (idxE e : Nat)], vsI (posE e)), (95, [.int .i64 (e.length : Nat), .int .i64 (idxE (flipE e i) : Nat)], vsI (posE (flipE e i))), (94, [.agg [.vs (cXs l)], vsI (posE e)], .bool b1), (94, [.agg [.vs (cXs l)], vsI (posE (flipE e i))], .bool b2)] (fun x hx => by
    rcases List.mem_cons.1 hx with rfl | hx
    · exact q1
    rcases List.mem_cons.1 hx with rfl | hx
    · exact q2
    rcases List.mem_cons.1 hx with rfl | hx
    · exact a1
    obtain rfl := List.mem_singleton.1 hx
    exact a2) (fun f => Nat.beq f 95 || Nat.beq f 94) rfl rfl rfl ?_
  repeat (first | refine o_mov rfl ?_ | refine o_loadn rfl rfl rfl rfl ?_)
  refine o_call rfl rfl lookL_here (fun h => Bool.noConfusion (show false = true from h)) ?_
  refine o_call rfl rfl (lookL_next (by decide) (lookL_next (by decide) lookL_here)) (fun h => Bool.noConfusion (show false = true from h)) ?_
  cases b1 with
  | false =>
    repeat (first | refine z_seq ?_ | refine z_region rfl ?_ | refine o_nil ?_ | refine u_seq ?_ | refine z_ct rfl ?_ | refine z_ret ?_ | refine u_ret_seq ?_ | refine o_gn rfl rfl ?_ | refine o_mov rfl ?_ | refine o_pickt rfl rfl ?_ | refine o_un rfl rfl ?_)
    exact u_end ⟨.inr rfl, _, rfl, rfl⟩
  | true =>
    repeat (first | refine o_gy rfl ?_ | refine o_mov rfl ?_ | refine o_loadn rfl rfl rfl rfl ?_ | refine o_un rfl rfl ?_)
    refine o_bin (op := .shl) rfl rfl hs ?_
    repeat (first | refine o_gy rfl ?_)
    refine o_bin (op := .xor) rfl rfl hx ?_
    repeat (first | refine o_gy rfl ?_)
    refine o_call rfl rfl (lookL_or (fun e0 => ?_) lookL_here) (fun h => Bool.noConfusion (show false = true from h)) ?_
    · injection e0 with _ e0
      injection e0 with e0
      injection e0 with _ e0
      exact absurd (Int.ofNat_inj.1 e0) hne
    repeat (first | refine o_gy rfl ?_)
    refine o_call rfl rfl (lookL_next (by decide) (lookL_next (by decide) (lookL_or (fun e0 => ?_) lookL_here))) (fun h => Bool.noConfusion (show false = true from h)) ?_
    · injection e0 with _ e0
      injection e0 with e0
      have e0 := vsI_inj e0
      rw [e0, hb2] at hb1
      rw [hb1]
    cases b2 with
    | false =>
      repeat (first | refine z_seq ?_ | refine z_region rfl ?_ | refine o_nil ?_ | refine u_seq ?_ | refine z_ct rfl ?_ | refine z_ret ?_ | refine u_ret_seq ?_ | refine o_gy rfl ?_ | refine o_mov rfl ?_ | refine o_pickf rfl rfl ?_ | refine o_un rfl rfl ?_)
      exact u_end ⟨.inr rfl, _, rfl, rfl⟩
    | true =>
      repeat (first | refine z_seq ?_ | refine z_region rfl ?_ | refine o_nil ?_ | refine u_seq ?_ | refine z_skip ?_ | refine z_cf rfl ?_ | refine o_gy rfl ?_ | refine o_mov rfl ?_ | refine o_pickf rfl rfl ?_ | refine o_un rfl rfl ?_)
      refine o_own rfl rfl (pos95o h1 h4) (flatL_ints _) ?_
      repeat (first | refine z_seq ?_ | refine z_region rfl ?_ | refine o_nil ?_ | refine u_seq ?_ | refine o_mov rfl ?_ | refine o_idxsm rfl rfl (by omega) (by omega) ?_)
      have e0 : 0 + ((i : Nat) : Int).toNat * 1 = i := by omega
      rw [e0]
      refine o_loadg rfl rfl (by decide) hge ?_
      have hml : ((posE e).map (AV.int .i64)).length = e.length := by rw [List.length_map, hpl]
      have hws : ∀ z : Int, ((posE e).map (AV.int .i64)).set i (.int .i64 z) = ((posE e).set i z).map (AV.int .i64) := fun z => by rw [List.map_set]
      have hfz : ∀ z : Int, RenF 1 1 (((posE e).map (AV.int .i64)).set i (.int .i64 z)) (.ms 1 1 1 0 e.length (some e.length)) (vsI ((posE e).set i z)) := fun z => .fms (by rw [List.length_map, List.length_set, hpl]) (fun x hx => by obtain ⟨y, _, rfl⟩ := List.mem_map.1 hx; rfl) ⟨[], by rw [List.drop_zero, List.append_nil, hws]; exact flat_intl _⟩
      unfold wayE at a3 ⊢
      cases hb : e.getD i false with
      | true =>
        rw [hb] at a3
        simp only [if_true, Bool.false_eq_true, if_false] at a3
        repeat (first | refine z_region rfl ?_ | refine o_nil ?_ | refine u_seq ?_ | refine z_cf rfl ?_ | refine o_mov rfl ?_ | refine o_cmpf rfl rfl rfl ?_ | refine o_idxsm rfl rfl (by omega) (by omega) ?_)
        rw [e0]
        refine o_storeg rfl rfl rfl rfl (by rw [hml]; exact hi) rfl ?_
        repeat (first | refine z_seq ?_ | refine z_region rfl ?_ | refine o_nil ?_ | refine u_seq ?_ | refine o_mov rfl ?_ | refine o_loadn rfl rfl rfl rfl ?_)
        refine o_freeze 1 1 [(41, .agg [.vs (cXs l)]), (42, vsI ((posE e).set i 3))] rfl (by rw [hws]; exact hasML_intl _) (.cons rfl .same (.cons rfl (hfz 3) .nil)) ?_
        refine o_call rfl rfl a3 (fun h => Bool.noConfusion (show false = true from h)) ?_
        repeat (first | refine o_nil ?_ | refine u_seq ?_ | refine z_ret ?_ | refine o_mov rfl ?_)
        exact u_end ⟨.inr rfl, _, rfl, rfl⟩
      | false =>
        rw [hb] at a3
        simp only [if_true, Bool.false_eq_true, if_false] at a3
        repeat (first | refine z_region rfl ?_ | refine o_nil ?_ | refine u_seq ?_ | refine z_ct rfl ?_ | refine o_mov rfl ?_ | refine o_cmpt rfl rfl rfl ?_ | refine o_idxsm rfl rfl (by omega) (by omega) ?_)
        rw [e0]
        refine o_storeg rfl rfl rfl rfl (by rw [hml]; exact hi) rfl ?_
        repeat (first | refine z_seq ?_ | refine z_region rfl ?_ | refine o_nil ?_ | refine u_seq ?_ | refine o_mov rfl ?_ | refine o_loadn rfl rfl rfl rfl ?_)
        refine o_freeze 1 1 [(41, .agg [.vs (cXs l)]), (42, vsI ((posE e).set i 1))] rfl (by rw [hws]; exact hasML_intl _) (.cons rfl .same (.cons rfl (hfz 1) .nil)) ?_
        refine o_call rfl rfl a3 (fun h => Bool.noConfusion (show false = true from h)) ?_
        repeat (first | refine o_nil ?_ | refine u_seq ?_ | refine z_ret ?_ | refine o_mov rfl ?_)
        exact u_end ⟨.inr rfl, _, rfl, rfl⟩

end Go.Proofs.Ytoiblgbaeglgoaa
