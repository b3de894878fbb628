/-
  THE NEIGHBOURS OF ALL VERTICES: joined walked.
-/
import Derived.Test.YtoagikifehmlpaaQF3
import Derived.Test.YtoagikifehmlpaaQSh
namespace Go.Proofs.Ytoagikifehmlpaa
open Go Go.Am
def b45_0 : IC := .seq (.region [⟨(some 14), .bin .lss (.t 13) (.t 12), none⟩] none)
 (.seq (.cond (.t 14) (.skip)
 (.exit 0))
 (.seq (.block 1 (.seq (.region [⟨(some 15), .idxs 2 (.t 11) (.t 13), none⟩,
  ⟨(some 16), .load (some 2) (.t 15), none⟩,
  ⟨(some 5), .alloc [.int .i64 0, .int .i64 0], none⟩,
  ⟨none, .store 2 (.t 5) (.t 16), none⟩] none)
 (.region [⟨(some 17), .mov (.t 3), none⟩,
  ⟨(some 18), .faddr 0 (.t 5), none⟩,
  ⟨(some 19), .load none (.t 18), none⟩,
  ⟨(some 20), .mov (.t 3), none⟩,
  ⟨(some 21), .faddr 0 (.t 5), none⟩,
  ⟨(some 22), .load none (.t 21), none⟩,
  ⟨(some 23), .idxs 1 (.t 20) (.t 22), none⟩,
  ⟨(some 24), .load none (.t 23), none⟩,
  ⟨(some 25), .faddr 1 (.t 5), none⟩,
  ⟨(some 26), .load none (.t 25), none⟩,
  ⟨(some 27), .bslice 1 1 [.int .i64 0] [(0, 1, (.t 26))], none⟩,
  ⟨(some 28), .append 1 8 [.int .i64 0] (.t 24) (.t 27), none⟩,
  ⟨(some 29), .idxs 1 (.t 17) (.t 19), none⟩,
  ⟨none, .store 1 (.t 29) (.t 28), none⟩] (some [[], [], [1], [], [], [4], [3, 5], [6], [], [8], [9], [7, 10], [0, 2, 0, 1, 2, 3, 4, 5, 6, 7, 8, 9, 10, 11], [12, 11, 11, 0, 1, 2, 3, 4, 5, 6, 7, 8, 9, 10, 11]]))))
 (.region [⟨(some 30), .bin .add (.t 13) (.c (.int .i64 1)), none⟩,
  ⟨(some 13), .mov (.t 30), none⟩] none)))
def b45_2 : IC := .seq (.region [⟨(some 34), .bin .lss (.t 33) (.t 32), none⟩] none)
 (.seq (.cond (.t 34) (.skip)
 (.exit 2))
 (.seq (.block 3 (.seq (.region [⟨(some 35), .mov (.t 33), none⟩,
  ⟨(some 6), .mov (.t 35), none⟩] none)
 (.seq (.region [⟨(some 36), .mov (.t 3), none⟩,
  ⟨(some 37), .mov (.t 6), none⟩,
  ⟨(some 38), .idxs 1 (.t 36) (.t 37), none⟩,
  ⟨(some 39), .load none (.t 38), none⟩,
  ⟨(some 40), .call (.c (.fn 64 [] [])) [(.t 39)], none⟩] none)
 (.region [⟨(some 41), .mov (.t 3), none⟩,
  ⟨(some 42), .mov (.t 6), none⟩,
  ⟨(some 43), .mov (.t 3), none⟩,
  ⟨(some 44), .mov (.t 6), none⟩,
  ⟨(some 45), .idxs 1 (.t 43) (.t 44), none⟩,
  ⟨(some 46), .load none (.t 45), none⟩,
  ⟨(some 47), .call (.c (.fn 65 [] [])) [(.t 46)], none⟩,
  ⟨(some 48), .idxs 1 (.t 41) (.t 42), none⟩,
  ⟨none, .store 1 (.t 48) (.t 47), none⟩] none))))
 (.region [⟨(some 49), .bin .add (.t 33) (.c (.int .i64 1)), none⟩,
  ⟨(some 33), .mov (.t 49), none⟩] none)))
-- pneumatic/digraph.joined
def ic45 : IC := .seq (.region [⟨(some 1), .box (.t 0), none⟩,
  ⟨(some 2), .mov (.c (.nils)), none⟩] none)
 (.seq (.region [⟨(some 7), .faddr 0 (.t 1), none⟩,
  ⟨(some 8), .load none (.t 7), none⟩,
  ⟨(some 9), .mkslice 1 24 [.nils] (.t 8) (.t 8), none⟩,
  ⟨(some 3), .mov (.t 9), none⟩] none)
 (.seq (.seq (.region [⟨(some 10), .faddr 1 (.t 1), none⟩,
  ⟨(some 11), .load none (.t 10), none⟩,
  ⟨(some 12), .len false (.t 11), none⟩,
  ⟨(some 13), .mov (.c (.int .i64 0)), none⟩] none)
 (.block 0 (.loop b45_0)))
 (.seq (.seq (.region [⟨(some 31), .mov (.t 3), none⟩,
  ⟨(some 32), .len false (.t 31), none⟩,
  ⟨(some 33), .mov (.c (.int .i64 0)), none⟩] none)
 (.block 2 (.loop b45_2)))
 (.seq (.region [⟨(some 50), .mov (.t 3), none⟩,
  ⟨(some 2), .mov (.t 50), none⟩] none)
 (.ret)))))
theorem fn45 : env0.fn 45 = some ⟨51, ic45, [.t 2]⟩ := by kernel_rfl
def reg45i : List Opr := [⟨(some 17), .mov (.t 3), none⟩, ⟨(some 18), .faddr 0 (.t 5), none⟩, ⟨(some 19), .load none (.t 18), none⟩, ⟨(some 20), .mov (.t 3), none⟩, ⟨(some 21), .faddr 0 (.t 5), none⟩, ⟨(some 22), .load none (.t 21), none⟩, ⟨(some 23), .idxs 1 (.t 20) (.t 22), none⟩, ⟨(some 24), .load none (.t 23), none⟩, ⟨(some 25), .faddr 1 (.t 5), none⟩, ⟨(some 26), .load none (.t 25), none⟩, ⟨(some 27), .bslice 1 1 [.int .i64 0] [(0, 1, (.t 26))], none⟩, ⟨(some 28), .append 1 8 [.int .i64 0] (.t 24) (.t 27), none⟩, ⟨(some 29), .idxs 1 (.t 17) (.t 19), none⟩, ⟨none, .store 1 (.t 29) (.t 28), none⟩]
def reg45p : List (List Nat) := [[], [], [1], [], [], [4], [3, 5], [6], [], [8], [9], [7, 10], [0, 2, 0, 1, 2, 3, 4, 5, 6, 7, 8, 9, 10, 11], [12, 11, 11, 0, 1, 2, 3, 4, 5, 6, 7, 8, 9, 10, 11]]
structure Rw (m : Nat) (L : Nat → List Int) (nz : Nat → Bool) (cv : Nat → AV) (C : Nat → List Int) (ids sps : Nat → Nat) : Prop where
 some : ∀ v, v < m → nz v = true → L v ≠ [] ∧ C v = L v ∧ cv v = .ms (ids v) (sps v) 1 0 (L v).length none
 none : ∀ v, v < m → nz v = false → L v = [] ∧ cv v = .nils
theorem zit {d : Nat} {v : AV} {l l' : List (Nat × AV)} (h : KeepA l l') (hd : ∀ x ∈ l', x.1 ≠ d) : KeepA ((d, v) :: l) l' := by
 induction h with
 | nil => exact .nil
 | @cons e u l2 h _ ih =>
  refine .cons ?_ (ih fun x hx => hd x (List.mem_cons_of_mem _ hx))
  have := hd (e, u) (List.mem_cons_self ..)
  rw [zc4]
  cases hb : Nat.beq d e with
  | true => exact absurd (Nat.eq_of_beq_eq_true hb).symm this
  | false => exact h
set_option maxHeartbeats 2000000 in
theorem reg45 {w0 : World} {N0 : Nat} {k : List Fr} {Q : Exit → AS → Prop} {y : IC} {m : Nat} {L : Nat → List Int} {nz : Nat → Bool} {cv : Nat → AV} {C : Nat → List Int} {ids sps : Nat → Nat} {hp : List (Nat × Nat × AObj)} {nx ck j s5 a b : Nat} {l : List (Nat × AV)}
  (hJ : Jn m nz cv C ids sps hp nx) (hR : Rw m L nz cv C ids sps) (k5 : Am.look j hp = some (s5, .cells [.int .i64 (a : Nat), .int .i64 (b : Nat)])) (hjn : j < nx) (hjd : ∀ v, v < m → nz v = true → ids v ≠ j) (ha : a < m) (hL : (L a).length ≤ 100000)
  (h3 : zc4 3 l = some (.ms 0 1 1 0 m (some m))) (h5 : zc4 5 l = some (.mptr j s5 0)) {l' : List (Nat × AV)} (hk : KeepA l l') (hd : ∀ x ∈ l', x.1 < 17)
  (fin : ∀ hp' nx' ck' nz' cv' C' ids' sps', Jn m nz' cv' C' ids' sps' hp' nx' → Rw m (upd L a (L a ++ [((b : Nat) : Int)])) nz' cv' C' ids' sps' → Zm Try.prog w0 N0 none y (st 51 l' hp' nx' ck') k Q) :
  Zm Try.prog w0 N0 none (.region reg45i (some reg45p)) (st 51 l hp nx ck) (.blk 1 :: .seq y :: k) Q := by
 have ez : ∀ o : Nat, 0 + ((o : Nat) : Int).toNat * 1 = o := fun o => by simp
 have hld0 : (fun i => Nat.beq i 0 || Nat.beq i j) 0 = true := rfl
 have hldj : (fun i => Nat.beq i 0 || Nat.beq i j) j = true := by show (Nat.beq j 0 || Nat.beq j j) = true; rw [Nat.beq_refl, Bool.or_true]
 refine z_cut env0_ok 12 [] (fun x hx => by cases hx) (fun _ => false) (fun i => Nat.beq i 0 || Nat.beq i j) (fun i => !(Nat.beq i 0 || Nat.beq i j)) (fun i h1 h2 => by rw [h1] at h2; cases h2) rfl rfl rfl rfl ?_
 show Om _ _ _ _ _ [_, _, _, _, _, _, _, _, _, _, _, _] _ _ _
 refine za2 h3 ?_
 refine zbq h5 ?_
 refine zb1 (id := j) (sp := s5) (off := 0) rfl k5 hjn rfl ?_ (zsc rfl hldj)
 refine za2 h3 ?_
 refine zbq h5 ?_
 refine zb1 (id := j) (sp := s5) (off := 0) rfl k5 hjn rfl ?_ (zsc rfl hldj)
 refine zbu rfl rfl (Int.natCast_nonneg a) (Int.ofNat_lt.2 ha) ?_
 rw [ez]
 refine zb1 (id := 0) (sp := 1) (off := a) rfl hJ.top hJ.nx0 (hJ.get ha) ?_ (zsc rfl hld0)
 refine zbq h5 ?_
 refine zb1 (id := j) (sp := s5) (off := 0 + 1) rfl k5 hjn rfl ?_ (zsc rfl hldj)
 refine zcl rfl rfl ?_ rfl
 have J1 := hJ.fresh ck (.cells [.int .i64 (b : Nat)])
 have hel : ∀ l : List (Nat × AV), (st 51 l ((nx, ck, AObj.cells [.int .i64 (b : Nat)]) :: hp) (nx + 1) (ck + 1) []).elems 1 (.ms nx ck 1 0 1 (some 1)) = some [[.int .i64 (b : Nat)]] := fun l => zdc (xs := [[.int .i64 (b : Nat)]]) (ys := []) zb5 rfl fun x hx => by obtain rfl := List.mem_singleton.1 hx; rfl
 cases hz : nz a with
 | false =>
  obtain ⟨e1, e2⟩ := hR.none a ha hz
  have J2 := (J1.add a (ck + 1) [((b : Nat) : Int)]).cset a (.ms (nx + 1) (ck + 1) 1 0 1 none)
  refine o_append (v := .ms (nx + 1) (ck + 1) 1 0 1 none) (hp' := (nx + 1, ck + 1, .cells [.int .i64 (b : Nat)]) :: (nx, ck, .cells [.int .i64 (b : Nat)]) :: hp) (nx' := nx + 1 + 1) (ck' := ck + 1 + 1) (congrArg some e2) rfl (hel []) rfl ?_ (napOk (congrArg some e2))
  refine za5 (zao ⟨rfl, fun rd => ?_⟩)
  refine AnyF.one 12 rfl (zp5 (i := 12) rfl rfl (zmk rfl rfl (Int.natCast_nonneg a) (Int.ofNat_lt.2 ha)) ?_)
  rw [ez]
  refine AnyF.one 13 rfl (zkt (i := 13) rfl (zg3 (id := 0) (sp := 1) (off := a) rfl rfl rfl rfl (J1.add a (ck + 1) [((b : Nat) : Int)]).top (Nat.ble_eq_true_of_le (by simp; omega)) rfl) ?_)
  rw [zi9 (by simp; exact ha)]
  refine AnyF.fin rfl (Um.ok (zcb (za3 (z_sub (za9 (l' := l') ?_) (fin _ _ _ _ _ _ _ _ J2 ?_)))))
  ·repeat (refine zit ?_ (fun x hx => by have := hd x hx; omega))
   exact hk
  ·constructor
   ·intro v hv hz'
    by_cases e : v = a
    ·subst e
     rw [zap, zap, zap, zap, zap, e1]
     exact ⟨List.cons_ne_nil _ _, rfl, rfl⟩
    ·rw [zaa _ _ e] at hz'
     rw [zaa _ _ e, zaa _ _ e, zaa _ _ e, zaa _ _ e, zaa _ _ e]
     exact hR.some v hv hz'
   ·intro v hv hz'
    by_cases e : v = a
    ·subst e
     rw [zap] at hz'
     cases hz'
    ·rw [zaa _ _ e] at hz'
     rw [zaa _ _ e, zaa _ _ e]
     exact hR.none v hv hz'
 | true =>
  obtain ⟨_, e1, e2⟩ := hR.some a ha hz
  have hp9 := hJ.pos a ha hz
  have hja := hjd a ha hz
  have J2 := (J1.block ha hz (ck + 1) (L a ++ [((b : Nat) : Int)])).cset a (.ms (ids a) (ck + 1) 1 0 ((L a).length + 1) none)
  have hsd : (fun i => !(Nat.beq i 0 || Nat.beq i j)) (ids a) = true := by
   have h1 : Nat.beq (ids a) 0 = false := by
    cases hb : Nat.beq (ids a) 0 with
    | false => rfl
    | true => have := Nat.eq_of_beq_eq_true hb; omega
   have h2 : Nat.beq (ids a) j = false := by
    cases hb : Nat.beq (ids a) j with
    | false => rfl
    | true => exact absurd (Nat.eq_of_beq_eq_true hb) hja
   show (!(Nat.beq (ids a) 0 || Nat.beq (ids a) j)) = true
   rw [h1, h2]
   rfl
  have hc := J1.cell a ha hz
  rw [e1] at hc
  have ap := zhs (n := 51) (l := (27, .ms nx ck 1 0 1 (some 1)) :: (26, .int .i64 (b : Nat)) :: (25, .mptr j s5 (0 + 1)) :: (24, cv a) :: (23, .mptr 0 1 a) :: (22, .int .i64 (a : Nat)) :: (21, .mptr j s5 (0 + 0)) :: (20, .ms 0 1 1 0 m (some m)) :: (19, .int .i64 (a : Nat)) :: (18, .mptr j s5 (0 + 0)) :: (17, .ms 0 1 1 0 m (some m)) :: l) (hp := (nx, ck, .cells [.int .i64 (b : Nat)]) :: hp) (nx := nx + 1) (ck := ck + 1) (mk := []) (sz := 1) (bytes := 8) (z := [.int .i64 0]) (s := .t 24) (x := .t 27) [[.int .i64 (b : Nat)]] (id := ids a) (sp := sps a) (len := (L a).length) (congrArg some e2) rfl (hel _) (Nat.succ_ne_zero 0) rfl (by decide) hc (by rw [List.length_map, Nat.mul_one]) (by show (L a).length + 1 ≤ 1048576; omega)
  have e0 : (L a).map (AV.int .i64) ++ [[AV.int .i64 (b : Nat)]].flatten = (L a ++ [((b : Nat) : Int)]).map (AV.int .i64) := by rw [List.map_append]; rfl
  rw [e0] at ap
  refine ze9 ap ?_ (apOk (congrArg some e2) hsd)
  refine za5 (zao ⟨rfl, fun rd => ?_⟩)
  refine AnyF.one 12 rfl (zp5 (i := 12) rfl rfl (zmk rfl rfl (Int.natCast_nonneg a) (Int.ofNat_lt.2 ha)) ?_)
  rw [ez]
  refine AnyF.one 13 rfl (zkt (i := 13) rfl (zg3 (id := 0) (sp := 1) (off := a) rfl rfl rfl rfl (J1.block ha hz (ck + 1) (L a ++ [((b : Nat) : Int)])).top (Nat.ble_eq_true_of_le (by simp; omega)) rfl) ?_)
  rw [zi9 (by simp; exact ha)]
  refine AnyF.fin rfl (Um.ok (zcb (za3 (z_sub (za9 (l' := l') ?_) (fin _ _ _ _ _ _ _ _ J2 ?_)))))
  ·repeat (refine zit ?_ (fun x hx => by have := hd x hx; omega))
   exact hk
  ·constructor
   ·intro v hv hz'
    by_cases e : v = a
    ·subst e
     rw [zap, zap, zap, zap, List.length_append]
     exact ⟨by simp, rfl, rfl⟩
    ·rw [zaa _ _ e, zaa _ _ e, zaa _ _ e, zaa _ _ e]
     exact hR.some v hv hz'
   ·intro v hv hz'
    by_cases e : v = a
    ·subst e
     rw [hz] at hz'
     cases hz'
    ·rw [zaa _ _ e, zaa _ _ e]
     exact hR.none v hv hz'
end Go.Proofs.Ytoagikifehmlpaa
