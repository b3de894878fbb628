/-
  THE REFERENCE's SIMPLE FORM; Simplify, here and in the reference.; SIMPLIFY, here and in the reference.; EXPRESSIONS IN PLACE OF VARIABLES, in plain Lean.; SUBSTITUTE, here and in the reference.; SUBSTITUTE, here and in the reference (2).; THE LAW OF FORMS.; WHAT EVERY LAW OF THE SEAT SHARES.; READING THE ARGUMENTS.; READING LISTS OF EXPRESSIONS.; THE PROGRAM's TABLE: an own list of values, set an
-/
import Derived.Test.YtmnkjofaodbokaaJX5
import Derived.Test.YtmnkjofaodbokaaRows
import Derived.JoinedCond
namespace Go.Proofs.Ytmnkjofaodbokaa
open Go Go.Am
def b59_0 : IC := .seq (.seq (.region [⟨(some 6), .mov (.t 4), none⟩,
  ⟨(some 7), .faddr 2 (.t 1), none⟩,
  ⟨(some 8), .load none (.t 7), none⟩,
  ⟨(some 9), .len false (.t 8), none⟩,
  ⟨(some 10), .bin .lss (.t 6) (.t 9), none⟩] none)
 (.cond (.t 10) (.skip)
 (.exit 0)))
 (.seq (.block 1 (.region [⟨(some 13), .mov (.t 3), none⟩,
  ⟨(some 14), .faddr 2 (.t 1), none⟩,
  ⟨(some 15), .load none (.t 14), none⟩,
  ⟨(some 16), .mov (.t 4), none⟩,
  ⟨(some 17), .idxs 3 (.t 15) (.t 16), none⟩,
  ⟨(some 18), .load (some 3) (.t 17), none⟩,
  ⟨(some 19), .call (.c (.fn 59 [] [])) [(.t 18)], none⟩,
  ⟨(some 20), .bslice 3 1 [.int .i64 0, .int .i64 0, .nils] [(0, 3, (.t 19))], none⟩,
  ⟨(some 21), .append 3 40 [.int .i64 0, .int .i64 0, .nils] (.t 13) (.t 20), none⟩,
  ⟨(some 3), .mov (.t 21), none⟩] none))
 (.region [⟨(some 11), .mov (.t 4), none⟩,
  ⟨(some 12), .bin .add (.t 11) (.c (.int .i64 1)), none⟩,
  ⟨(some 4), .mov (.t 12), none⟩] none))
-- pneumatic/pneumaticref05.Simple
def ic59 : IC := .seq (.region [⟨(some 1), .box (.t 0), none⟩,
  ⟨(some 2), .alloc [.int .i64 0, .int .i64 0, .nils], none⟩] none)
 (.seq (.region [⟨(some 3), .mov (.c (.nils)), none⟩] none)
 (.seq (.seq (.region [⟨(some 4), .mov (.c (.int .i64 0)), none⟩] none)
 (.block 0 (.loop b59_0)))
 (.seq (.seq (.region [⟨(some 22), .faddr 0 (.t 1), none⟩,
  ⟨(some 23), .load none (.t 22), none⟩] none)
 (.block 2 (.seq (.region [⟨(some 25), .bin .eql (.t 23) (.c (.int .i64 2)), none⟩,
  ⟨(some 24), .mov (.t 25), none⟩] none)
 (.cond (.t 24) (.seq (.region [⟨(some 26), .mov (.t 3), none⟩,
  ⟨(some 27), .idxs 3 (.t 26) (.c (.int .i64 0)), none⟩,
  ⟨(some 28), .load (some 3) (.t 27), none⟩,
  ⟨(some 5), .alloc [.int .i64 0, .int .i64 0, .nils], none⟩,
  ⟨none, .store 3 (.t 5) (.t 28), none⟩] none)
 (.seq (.seq (.region [⟨(some 29), .faddr 0 (.t 5), none⟩,
  ⟨(some 30), .load none (.t 29), none⟩,
  ⟨(some 31), .bin .eql (.t 30) (.c (.int .i64 0)), none⟩] none)
 (.cond (.t 31) (.seq (.region [⟨(some 32), .faddr 1 (.t 5), none⟩,
  ⟨(some 33), .load none (.t 32), none⟩,
  ⟨(some 34), .bin .eql (.t 33) (.c (.int .i64 0)), none⟩,
  ⟨(some 35), .call (.c (.fn 39 [] [])) [(.t 34)], none⟩,
  ⟨none, .store 3 (.t 2) (.t 35), none⟩] none)
 (.ret))
 (.skip)))
 (.seq (.seq (.region [⟨(some 36), .faddr 0 (.t 5), none⟩,
  ⟨(some 37), .load none (.t 36), none⟩,
  ⟨(some 38), .bin .eql (.t 37) (.c (.int .i64 2)), none⟩] none)
 (.cond (.t 38) (.seq (.region [⟨(some 39), .faddr 2 (.t 5), none⟩,
  ⟨(some 40), .load none (.t 39), none⟩,
  ⟨(some 41), .idxs 3 (.t 40) (.c (.int .i64 0)), none⟩,
  ⟨(some 42), .load (some 3) (.t 41), none⟩,
  ⟨none, .store 3 (.t 2) (.t 42), none⟩] none)
 (.ret))
 (.skip)))
 (.seq (.region [⟨(some 43), .load (some 3) (.t 5), none⟩,
  ⟨(some 44), .call (.c (.fn 88 [] [])) [(.t 43)], none⟩,
  ⟨none, .store 3 (.t 2) (.t 44), none⟩] none)
 (.ret)))))
 (.seq (.seq (.region [⟨(some 46), .bin .eql (.t 23) (.c (.int .i64 3)), none⟩,
  ⟨(some 45), .mov (.t 46), none⟩] none)
 (.cond (.t 45) (.skip)
 (.region [⟨(some 47), .bin .eql (.t 23) (.c (.int .i64 4)), none⟩,
  ⟨(some 45), .mov (.t 47), none⟩] none)))
 (.cond (.t 45) (.seq (.region [⟨(some 48), .faddr 0 (.t 1), none⟩,
  ⟨(some 49), .load none (.t 48), none⟩,
  ⟨(some 50), .mov (.t 3), none⟩,
  ⟨(some 51), .call (.c (.fn 89 [] [])) [(.t 49), (.t 50)], none⟩,
  ⟨none, .store 3 (.t 2) (.t 51), none⟩] none)
 (.ret))
 (.skip)))))))
 (.seq (.region [⟨(some 52), .load (some 3) (.t 1), none⟩,
  ⟨none, .store 3 (.t 2) (.t 52), none⟩] none)
 (.ret)))))
theorem fn59 : env0.fn 59 = some ⟨53, ic59, [.cell 2 (some 3)]⟩ := by kernel_rfl
set_option maxHeartbeats 4000000 in
theorem simple59 {n : Int} : ∀ (q : Nat) (x : Ex), SizeOf.sizeOf x ≤ q → nds n x = 0 → szX x ≤ 256 → PF Try.prog 59 [.agg (cX x)] (.agg (cX (zkx x))) := by
 intro q
 induction q with
 | zero => intro x hq; cases x; simp at hq
 | succ q ih =>
  intro x hq hx hs
  obtain ⟨_, _, h3⟩ := zh4 _ x (Nat.le_refl _) hx hs
  obtain ⟨op, ix, args⟩ := x
  obtain ⟨h4, h5⟩ := h3 op ix args rfl
  have hm : args.map zkx = args.map zej := List.map_congr_left fun y hy => zqy _ y (Nat.le_refl _) ((zch hx).2 y hy) (by have := zeu (op := op) (ix := ix) hy; omega)
  rw [← hm] at h4 h5
  have hsr : zkx (.nd op ix args) = if op = 2 then zsd 0 ((args.map zkx).headD (zeg false)) else if op = 3 ∨ op = 4 then zrk op (args.map zkx) else .nd op ix args := by
   rw [zkx, zmd]
  have hcl := zan args
  have hll := zbx args
  have hsa : szL args ≤ 255 := by rw [szX] at hs; omega
  have hpy : ∀ y ∈ args, PF Try.prog 59 [.agg (cX y)] (.agg (cX (zkx y))) := fun y hy => ih y (by have := zed (op := op) (ix := ix) hy; omega) ((zch hx).2 y hy) (by have := zeu (op := op) (ix := ix) hy; omega)
  have hlow : op ≠ 2 → op ≠ 3 → op ≠ 4 → args = [] := fun a b c => (zvh hx a b c).2
  generalize zkx (.nd op ix args) = R at *
  clear ih hx h3
  refine zb3 env0_ok fn59 [(0, .agg (cX (.nd op ix args)))] (by show 1 ≤ 53; decide) rfl fun w0 N0 => ?_
  unfold ic59
  refine za6 (za0 rfl (zbd rfl rfl (zam (za3 (za2 ?_)))))
  refine zce [(some (1, 1), [.int .i64 0, .int .i64 0, .nils])] [(0, 0, cX (.nd op ix args))] [(1, .vptr (cX (.nd op ix args))), (2, .mptr 0 0 0)] rfl (.cons rfl rfl .nil) (.cons rfl (.cons (.same rfl) (.cons (.same rfl) (.cons (.same rfl) .nil))) .nil) (.cons rfl (.fptr rfl rfl) (.cons rfl (.mptr rfl) .nil)) ?_
  repeat (first | refine za6 ?_ | refine za0 rfl ?_ | refine za3 ?_ | refine za2 ?_ | refine zal ?_ | refine za4 rfl ?_)
  refine zd9 (fun mm S => ∃ i w hp nx ck, mm = args.length - i ∧ i ≤ args.length ∧ Cq ((args.take i).map zkx) w hp nx ∧ S = st 53 [(1, .vptr (cX (.nd op ix args))), (2, .mptr 0 0 0), (3, w), (4, .int .i64 (i : Nat))] hp nx ck) args.length
   (zat (.cons rfl (.cons rfl (.cons rfl (.cons rfl .nil))))) ⟨0, .nils, _, _, _, rfl, Nat.zero_le _, ⟨rfl, .inl ⟨rfl, rfl⟩, (by show 0 < 1; decide)⟩, rfl⟩ ?_
  rintro mm S ⟨i, w, hp, nx, ck, rfl, hi, hC, rfl⟩
  have hql : ((args.take i).map zkx).length ≤ 1000000 := by rw [List.length_map, List.length_take]; omega
  unfold b59_0
  repeat (first | refine za6 ?_ | refine za0 rfl ?_ | refine za4 rfl ?_ | refine zai rfl rfl ?_ | refine zap rfl rfl rfl ?_ | refine zbf rfl rfl ?_)
  refine zaw rfl rfl rfl (fun h3 => ?_) fun h3 => ?_
  ·have hlt : i < args.length := by
    have h4 : ((i : Nat) : Int) < (((cXs args).length : Nat) : Int) := of_decide_eq_true h3
    omega
   have w1 : IntKind.wrap .i64 (((i : Nat) : Int) + 1) = ((i + 1 : Nat) : Int) := zbo i (by omega)
   have hge := zcg hlt
   have py := hpy args[i] (List.getElem_mem hlt)
   have hsn : (args.take (i + 1)).map zkx = (args.take i).map zkx ++ [zkx args[i]] := by
    rw [List.take_add_one, List.getElem?_eq_getElem hlt, List.map_append]; rfl
   generalize args[i] = y at *
   generalize zkx y = gy at *
   obtain ⟨yo, yi, ya⟩ := y
   obtain ⟨go, gi, ga⟩ := gy
   repeat (first | refine za6 ?_ | refine za0 rfl ?_ | refine za3 ?_ | refine za2 ?_ | refine zal ?_ | refine zae ?_ | refine zbg rfl ?_ | refine za4 rfl ?_ | refine zai rfl rfl ?_ | refine zaa rfl rfl rfl rfl ?_ | refine zap rfl rfl rfl ?_ | refine zb4 rfl rfl (by omega) (by assumption) rfl ?_)
   refine zar rfl rfl py (fun h => Bool.noConfusion (show false = true from h)) ?_
   repeat (first | refine zav rfl rfl ?_)
   refine zng (x0 := .nd go gi ga) (fun _ => rfl) (hC.fresh _ (.cells (cX (.nd go gi ga)))).lst (hC.fresh ck (.cells [])).nx0 hql rfl rfl zbs (by decide) fun w' hp' nx' ck' hG hb hk => ?_
   repeat (first | refine za0 rfl ?_ | refine za3 ?_ | refine za2 ?_ | refine zbk ?_ | refine za4 rfl ?_ | refine zaz (op := .add) rfl rfl rfl ?_)
   rw [w1]
   exact zbz (show args.length - (i + 1) < args.length - i by omega) (zat (.cons rfl (.cons rfl (.cons rfl (.cons rfl .nil))))) ⟨i + 1, w', _, _, _, rfl, hlt, by rw [hsn]; exact ⟨by rw [hk 0 (by decide)]; exact (hC.fresh _ _).res, hG, hb⟩, rfl⟩
  ·have hie : i = args.length := by
    have h4 : ¬ ((i : Nat) : Int) < (((cXs args).length : Nat) : Int) := of_decide_eq_false h3
    omega
   subst hie
   rw [List.take_length] at hC
   generalize args.map zkx = bs at *
   repeat (first | refine zbl rfl ?_ | refine za3 ?_ | refine za2 ?_ | refine zb8 ?_ | refine zaf ?_)
   refine zdq ?_
   refine zb7 (za2 (za6 ?_))
   refine z_cq (d1 := 1) (d2 := 2) (d3 := 4) (d4 := 3) hC rfl rfl rfl rfl rfl rfl ?_
   repeat (first | refine za6 ?_ | refine za0 rfl ?_ | refine za3 ?_ | refine za2 ?_ | refine zal ?_ | refine zai rfl rfl ?_ | refine zap rfl rfl rfl ?_)
   refine zaw rfl rfl rfl (fun h => ?_) fun h => ?_
   ·have h : op = 2 := by simpa using h
    rw [if_pos h] at hsr
    rw [h] at h4
    obtain ⟨_, y, rfl, hy⟩ := zes h4
    have hyz : opX y = 2 → ∃ z r, zo3 y = z :: r := fun e => by
     rw [zuy y, e] at hy
     obtain ⟨_, z, ez, _⟩ := zes hy
     exact ⟨z, [], ez⟩
    have hg0 : (cXs [y])[((0 : Int)).toNat]? = some (cX y) := rfl
    replace hsr : R = if opX y = 0 then zeg (ixX y == 0) else if opX y = 2 then (zo3 y).headD y else .nd 2 0 [y] := hsr
    clear hy hC hpy hm h5 h4
    have p88 := neg88 y
    have hny : zp1 y = .nd 2 0 [y] := rfl
    rw [hny] at p88
    obtain ⟨yo, yi, ya⟩ := y
    replace hsr : R = if yo = 0 then zeg (yi == 0) else if yo = 2 then ya.headD (.nd yo yi ya) else .nd 2 0 [.nd yo yi ya] := hsr
    replace hyz : yo = 2 → ∃ z r, ya = z :: r := hyz
    repeat (first | refine za6 ?_ | refine za0 rfl ?_ | refine za3 ?_ | refine za2 ?_ | refine zbg rfl ?_ | refine za4 rfl ?_ | refine zai rfl rfl ?_ | refine zaa rfl rfl rfl rfl ?_ | refine za8 rfl rfl rfl rfl rfl rfl rfl ?_ | refine za9 rfl ?_ | refine zam ?_ | refine zb4 rfl rfl (by omega) (by assumption) rfl ?_)
    refine zaw rfl rfl rfl (fun k => ?_) fun k => ?_
    ·have k : yo = 0 := by simpa using k
     rw [if_pos k] at hsr
     subst hsr
     repeat (first | refine za6 ?_ | refine za0 rfl ?_ | refine za3 ?_ | refine za2 ?_ | refine zbg rfl ?_ | refine zai rfl rfl ?_ | refine za9 rfl ?_)
     refine zaw rfl rfl rfl (fun k => ?_) fun k => ?_
     ·rw [k]
      refine zar rfl rfl (zla true) (fun h => Bool.noConfusion (show false = true from h)) ?_
      repeat (first | refine za3 ?_ | refine za2 ?_ | refine zah ?_ | refine za5 ?_ | refine zad ?_ | refine za8 rfl rfl rfl rfl rfl rfl rfl ?_)
      exact zak ⟨.inr rfl, _, rfl, rfl⟩
     ·rw [k]
      refine zar rfl rfl (zla false) (fun h => Bool.noConfusion (show false = true from h)) ?_
      repeat (first | refine za3 ?_ | refine za2 ?_ | refine zah ?_ | refine za5 ?_ | refine zad ?_ | refine za8 rfl rfl rfl rfl rfl rfl rfl ?_)
      exact zak ⟨.inr rfl, _, rfl, rfl⟩
    ·have k : ¬ yo = 0 := by simpa using k
     rw [if_neg k] at hsr
     repeat (first | refine za6 ?_ | refine za0 rfl ?_ | refine za3 ?_ | refine za2 ?_ | refine zae ?_ | refine zbl rfl ?_ | refine zai rfl rfl ?_ | refine za9 rfl ?_)
     refine zaw rfl rfl rfl (fun k => ?_) fun k => ?_
     ·have k : yo = 2 := by simpa using k
      rw [if_pos k] at hsr
      obtain ⟨z, r, hz⟩ := hyz k
      subst hz
      replace hsr : R = z := hsr
      subst hsr
      have hg1 : (cXs (R :: r))[((0 : Int)).toNat]? = some (cX R) := rfl
      obtain ⟨zo, zi, za⟩ := R
      repeat (first | refine za6 ?_ | refine za0 rfl ?_ | refine za3 ?_ | refine za2 ?_ | refine zbg rfl ?_ | refine zah ?_ | refine za5 ?_ | refine zad ?_ | refine zai rfl rfl ?_ | refine zaa rfl rfl rfl rfl ?_ | refine za8 rfl rfl rfl rfl rfl rfl rfl ?_ | refine za9 rfl ?_ | refine zb4 rfl rfl (by omega) (by assumption) rfl ?_)
      exact zak ⟨.inr rfl, _, rfl, rfl⟩
     ·have k : ¬ yo = 2 := by simpa using k
      rw [if_neg k] at hsr
      subst hsr
      repeat (first | refine za6 ?_ | refine za0 rfl ?_ | refine za3 ?_ | refine za2 ?_ | refine zae ?_ | refine zbl rfl ?_ | refine zaa rfl rfl rfl rfl ?_)
      refine zar rfl rfl p88 (fun h => Bool.noConfusion (show false = true from h)) ?_
      repeat (first | refine za3 ?_ | refine za2 ?_ | refine zah ?_ | refine za5 ?_ | refine zad ?_ | refine za8 rfl rfl rfl rfl rfl rfl rfl ?_)
      exact zak ⟨.inr rfl, _, rfl, rfl⟩
   ·have h : ¬ op = 2 := by simpa using h
    rw [if_neg h] at hsr
    have p89 := joined89 op bs (by rw [szX] at h5; omega)
    repeat (first | refine za6 ?_ | refine za0 rfl ?_ | refine za3 ?_ | refine za2 ?_ | refine zbl rfl ?_ | refine za4 rfl ?_)
    refine zaw rfl rfl rfl (fun k => ?_) fun k => ?_
    ·have k : op = 3 := by simpa using k
     rw [if_pos (.inl k)] at hsr
     rw [← hsr] at p89
     clear hsr
     obtain ⟨zo, zi, za⟩ := R
     repeat (first | refine za6 ?_ | refine za0 rfl ?_ | refine za3 ?_ | refine za2 ?_ | refine zae ?_ | refine zbg rfl ?_ | refine za4 rfl ?_ | refine zai rfl rfl ?_ | refine zap rfl rfl rfl ?_)
     refine zar rfl rfl p89 (fun h => Bool.noConfusion (show false = true from h)) ?_
     repeat (first | refine za3 ?_ | refine za2 ?_ | refine zah ?_ | refine za5 ?_ | refine zad ?_ | refine za8 rfl rfl rfl rfl rfl rfl rfl ?_)
     exact zak ⟨.inr rfl, _, rfl, rfl⟩
    ·have k : ¬ op = 3 := by simpa using k
     repeat (first | refine za0 rfl ?_ | refine za3 ?_ | refine za2 ?_ | refine zbl rfl ?_ | refine za4 rfl ?_)
     refine zaw rfl rfl rfl (fun k2 => ?_) fun k2 => ?_
     ·have k2 : op = 4 := by simpa using k2
      rw [if_pos (.inr k2)] at hsr
      rw [← hsr] at p89
      clear hsr
      obtain ⟨zo, zi, za⟩ := R
      repeat (first | refine za6 ?_ | refine za0 rfl ?_ | refine za3 ?_ | refine za2 ?_ | refine zbg rfl ?_ | refine za4 rfl ?_ | refine zai rfl rfl ?_ | refine zap rfl rfl rfl ?_)
      refine zar rfl rfl p89 (fun h => Bool.noConfusion (show false = true from h)) ?_
      repeat (first | refine za3 ?_ | refine za2 ?_ | refine zah ?_ | refine za5 ?_ | refine zad ?_ | refine za8 rfl rfl rfl rfl rfl rfl rfl ?_)
      exact zak ⟨.inr rfl, _, rfl, rfl⟩
     ·have k2 : ¬ op = 4 := by simpa using k2
      rw [if_neg (by rintro (e | e); exact k e; exact k2 e)] at hsr
      subst hsr
      repeat (first | refine za6 ?_ | refine za0 rfl ?_ | refine za3 ?_ | refine za2 ?_ | refine zbk ?_ | refine zae ?_ | refine zbl rfl ?_ | refine zah ?_ | refine za4 rfl ?_ | refine zaa rfl rfl rfl rfl ?_ | refine za8 rfl rfl rfl rfl rfl rfl rfl ?_)
      exact zak ⟨.inr rfl, _, rfl, rfl⟩
end Go.Proofs.Ytmnkjofaodbokaa
namespace Go.Proofs.Ytmnkjofaodbokaa
open Go Go.Am
theorem merged58 {n : Int} {x : Ex} (h : nds n x = 0) (hs : szX x ≤ 256) : PF Try.prog 58 [.agg (cX x)] (.agg (cX (zdj x))) := by
 obtain ⟨op, ix, args⟩ := x
 rw [szX] at hs
 by_cases h2 : op = 2
 ·subst h2
  obtain ⟨_, y, rfl, hy⟩ := zes h
  rw [zki]
  refine zuw ix y fun e => ?_
  rw [zuy y, e] at hy
  obtain ⟨_, z, ez, _⟩ := zes hy
  exact ⟨z, [], ez⟩
 ·by_cases ho : op = 3 ∨ op = 4
  ·rw [zfs ix args ho]
   exact zuv ix args ho (by omega)
  ·rw [zft ix args h2 (fun e => ho (.inl e)) (fun e => ho (.inr e))]
   exact zux ix args h2 (fun e => ho (.inl e)) (fun e => ho (.inr e))
theorem zoy {n : Int} {x : Ex} (h : nds n x = 0) (hs : szX x ≤ 256) : PF Try.prog 57 [.agg (cX x), .fn 58 [] []] (.agg (cX (zej x))) := by
 refine zm1 58 [] rfl rfl (fun _ => rfl) (fun _ => rfl) zdj (fun y => nds n y = 0 ∧ szX y ≤ 256) (fun op ix args ⟨h1, h2⟩ => ?_) _ x (Nat.le_refl _) ⟨h, hs⟩
 have hll := zbx args
 obtain ⟨_, _, h3⟩ := zh4 _ _ (Nat.le_refl _) h1 h2
 obtain ⟨h4, h5⟩ := h3 op ix args rfl
 rw [zjh, show args.map (zji zdj) = args.map zej from rfl]
 have h2' := h2
 rw [szX] at h2'
 exact ⟨by omega, fun y hy => ⟨(zch h1).2 y hy, by have := zeu (op := op) (ix := ix) hy; omega⟩, merged58 h4 (by omega)⟩
theorem zms {x : Ex} {n : Int} (h : zbq x n = 0) : zcj x = true := by
 unfold zbq at h
 split at h
 ·cases h
 ·split at h
  ·assumption
  ·cases h
theorem ziv {x : Ex} {n : Int} (h : zbq x n = 0) : szX x ≤ 256 := ((zcy x).1 (zms h)).1
def zs1 (x : Ex) (n : Int) : AV := if zbq x n = 0 then .tup [.agg (cX (zej x)), .int .i64 0] else .tup [.agg (cX (.nd 0 0 [])), .int .i64 (zbq x n)]
-- pneumatic/boolexp.Simplify
def ic23 : IC := .seq (.region [⟨(some 2), .box (.t 0), none⟩,
  ⟨(some 4), .alloc [.int .i64 0, .int .i64 0, .nils], none⟩,
  ⟨(some 5), .mov (.c (.int .i64 0)), none⟩] none)
 (.seq (.seq (.region [⟨(some 7), .load (some 3) (.t 2), none⟩,
  ⟨(some 8), .mov (.t 1), none⟩,
  ⟨(some 9), .call (.c (.fn 32 [] [])) [(.t 7), (.t 8)], none⟩,
  ⟨(some 6), .mov (.t 9), none⟩] none)
 (.seq (.region [⟨(some 10), .mov (.t 6), none⟩,
  ⟨(some 11), .bin .neq (.t 10) (.c (.int .i64 0)), none⟩] none)
 (.cond (.t 11) (.seq (.region [⟨(some 12), .build [.int .i64 0, .int .i64 0, .nils] [], none⟩,
  ⟨(some 13), .mov (.t 6), none⟩,
  ⟨none, .store 3 (.t 4) (.t 12), none⟩,
  ⟨(some 5), .mov (.t 13), none⟩] none)
 (.ret))
 (.skip))))
 (.seq (.region [⟨(some 14), .load (some 3) (.t 2), none⟩,
  ⟨(some 15), .call (.c (.fn 57 [] [])) [(.t 14), (.c (.fn 58 [] []))], none⟩,
  ⟨none, .store 3 (.t 4) (.t 15), none⟩,
  ⟨(some 5), .mov (.c (.int .i64 0)), none⟩] none)
 (.ret)))
theorem fn23 : env0.fn 23 = some ⟨16, ic23, [.cell 4 (some 3), .t 5]⟩ := by kernel_rfl
theorem zs2 (x : Ex) (hs : Slim x) (n : Int) : PF Try.prog 23 [.agg (cX x), .int .i64 n] (zs1 x n) := by
 have p32 := zit x hs n
 rw [zek] at p32
 have p57 : zbq x n = 0 → PF Try.prog 57 [.agg (cX x), .fn 58 [] []] (.agg (cX (zej x))) := fun h => zoy (zfl h) (ziv h)
 unfold zs1
 generalize zbq x n = c at *
 generalize zej x = R at *
 obtain ⟨op, ix, args⟩ := x
 refine zb3 env0_ok fn23 [(0, .agg (cX (.nd op ix args))), (1, .int .i64 n)] (by show 2 ≤ 16; decide) rfl fun w0 N0 => ?_
 unfold ic23
 refine za6 (za0 rfl (zbd rfl rfl (zam (za4 rfl (za3 (za2 ?_))))))
 refine zce [(some (1, 1), [.int .i64 0, .int .i64 0, .nils])] [(0, 0, cX (.nd op ix args))] [(1, .int .i64 n), (2, .vptr (cX (.nd op ix args))), (4, .mptr 0 0 0)] rfl (.cons rfl rfl .nil) (.cons rfl (.cons (.same rfl) (.cons (.same rfl) (.cons (.same rfl) .nil))) .nil) (.cons rfl (.same rfl) (.cons rfl (.fptr rfl rfl) (.cons rfl (.mptr rfl) .nil))) ?_
 repeat (first | refine za6 ?_ | refine za0 rfl ?_ | refine za4 rfl ?_ | refine zaa rfl rfl rfl rfl ?_)
 refine zar rfl rfl p32 (fun h => Bool.noConfusion (show false = true from h)) ?_
 repeat (first | refine za6 ?_ | refine za0 rfl ?_ | refine za3 ?_ | refine za2 ?_ | refine za4 rfl ?_)
 refine zaw rfl rfl rfl (fun hc => ?_) fun hc => ?_
 ·rw [if_neg (bne_iff_ne.1 hc)]
  repeat (first | refine za6 ?_ | refine za0 rfl ?_ | refine za3 ?_ | refine za2 ?_ | refine zbg rfl ?_ | refine zah ?_ | refine za5 ?_ | refine za4 rfl ?_ | refine za8 rfl rfl rfl rfl rfl rfl rfl ?_ | refine zb0 rfl rfl ?_)
  exact zak ⟨.inr rfl, _, rfl, rfl⟩
 ·have hc : c = 0 := by simpa using hc
  have q57 := p57 hc
  rw [if_pos hc]
  obtain ⟨ro, ri, ra⟩ := R
  repeat (first | refine za6 ?_ | refine za0 rfl ?_ | refine za3 ?_ | refine za2 ?_ | refine zae ?_ | refine zbl rfl ?_ | refine zaa rfl rfl rfl rfl ?_)
  refine zar rfl rfl q57 (fun h => Bool.noConfusion (show false = true from h)) ?_
  repeat (first | refine za3 ?_ | refine za2 ?_ | refine zah ?_ | refine za4 rfl ?_ | refine za8 rfl rfl rfl rfl rfl rfl rfl ?_)
  exact zak ⟨.inr rfl, _, rfl, rfl⟩
-- pneumatic/pneumaticref05.Simplify
def ic24 : IC := .seq (.region [⟨(some 2), .box (.t 0), none⟩,
  ⟨(some 4), .alloc [.int .i64 0, .int .i64 0, .nils], none⟩,
  ⟨(some 5), .mov (.c (.int .i64 0)), none⟩] none)
 (.seq (.seq (.region [⟨(some 7), .load (some 3) (.t 2), none⟩,
  ⟨(some 8), .mov (.t 1), none⟩,
  ⟨(some 9), .call (.c (.fn 33 [] [])) [(.t 7), (.t 8)], none⟩,
  ⟨(some 6), .mov (.t 9), none⟩] none)
 (.seq (.region [⟨(some 10), .mov (.t 6), none⟩,
  ⟨(some 11), .bin .neq (.t 10) (.c (.int .i64 0)), none⟩] none)
 (.cond (.t 11) (.seq (.region [⟨(some 12), .build [.int .i64 0, .int .i64 0, .nils] [], none⟩,
  ⟨(some 13), .mov (.t 6), none⟩,
  ⟨none, .store 3 (.t 4) (.t 12), none⟩,
  ⟨(some 5), .mov (.t 13), none⟩] none)
 (.ret))
 (.skip))))
 (.seq (.region [⟨(some 14), .load (some 3) (.t 2), none⟩,
  ⟨(some 15), .call (.c (.fn 59 [] [])) [(.t 14)], none⟩,
  ⟨none, .store 3 (.t 4) (.t 15), none⟩,
  ⟨(some 5), .mov (.c (.int .i64 0)), none⟩] none)
 (.ret)))
theorem fn24 : env0.fn 24 = some ⟨16, ic24, [.cell 4 (some 3), .t 5]⟩ := by kernel_rfl
theorem zs3 (x : Ex) (hs : Slim x) (n : Int) : PF Try.prog 24 [.agg (cX x), .int .i64 n] (zs1 x n) := by
 have p33 := zl8 x hs n
 have p59 : zbq x n = 0 → PF Try.prog 59 [.agg (cX x)] (.agg (cX (zej x))) := fun h => by
  rw [← zqy _ x (Nat.le_refl _) (zfl h) (ziv h)]
  exact simple59 _ x (Nat.le_refl _) (zfl h) (ziv h)
 unfold zs1
 generalize zbq x n = c at *
 generalize zej x = R at *
 obtain ⟨op, ix, args⟩ := x
 refine zb3 env0_ok fn24 [(0, .agg (cX (.nd op ix args))), (1, .int .i64 n)] (by show 2 ≤ 16; decide) rfl fun w0 N0 => ?_
 unfold ic24
 refine za6 (za0 rfl (zbd rfl rfl (zam (za4 rfl (za3 (za2 ?_))))))
 refine zce [(some (1, 1), [.int .i64 0, .int .i64 0, .nils])] [(0, 0, cX (.nd op ix args))] [(1, .int .i64 n), (2, .vptr (cX (.nd op ix args))), (4, .mptr 0 0 0)] rfl (.cons rfl rfl .nil) (.cons rfl (.cons (.same rfl) (.cons (.same rfl) (.cons (.same rfl) .nil))) .nil) (.cons rfl (.same rfl) (.cons rfl (.fptr rfl rfl) (.cons rfl (.mptr rfl) .nil))) ?_
 repeat (first | refine za6 ?_ | refine za0 rfl ?_ | refine za4 rfl ?_ | refine zaa rfl rfl rfl rfl ?_)
 refine zar rfl rfl p33 (fun h => Bool.noConfusion (show false = true from h)) ?_
 repeat (first | refine za6 ?_ | refine za0 rfl ?_ | refine za3 ?_ | refine za2 ?_ | refine za4 rfl ?_)
 refine zaw rfl rfl rfl (fun hc => ?_) fun hc => ?_
 ·rw [if_neg (bne_iff_ne.1 hc)]
  repeat (first | refine za6 ?_ | refine za0 rfl ?_ | refine za3 ?_ | refine za2 ?_ | refine zbg rfl ?_ | refine zah ?_ | refine za5 ?_ | refine za4 rfl ?_ | refine za8 rfl rfl rfl rfl rfl rfl rfl ?_ | refine zb0 rfl rfl ?_)
  exact zak ⟨.inr rfl, _, rfl, rfl⟩
 ·have hc : c = 0 := by simpa using hc
  have q59 := p59 hc
  rw [if_pos hc]
  obtain ⟨ro, ri, ra⟩ := R
  repeat (first | refine za6 ?_ | refine za0 rfl ?_ | refine za3 ?_ | refine za2 ?_ | refine zae ?_ | refine zbl rfl ?_ | refine zaa rfl rfl rfl rfl ?_)
  refine zar rfl rfl q59 (fun h => Bool.noConfusion (show false = true from h)) ?_
  repeat (first | refine za3 ?_ | refine za2 ?_ | refine zah ?_ | refine za4 rfl ?_ | refine za8 rfl rfl rfl rfl rfl rfl rfl ?_)
  exact zak ⟨.inr rfl, _, rfl, rfl⟩
end Go.Proofs.Ytmnkjofaodbokaa
namespace Go.Proofs.Ytmnkjofaodbokaa
open Go Go.Am
def sub1 (l : List Ex) (y : Ex) : Ex := if opX y = 1 then l.getD (ixX y).toNat (zeg false) else y
def zeo (l : List Ex) (x : Ex) : Ex := zji (sub1 l) x
theorem zqn (l : List Ex) (op ix : Int) (args : List Ex) : zeo l (.nd op ix args) = if op = 1 then l.getD ix.toNat (zeg false) else .nd op ix (args.map (zeo l)) := by
 show zji (sub1 l) _ = _
 rw [zji, zjh]
 rfl
mutual
theorem map_id : ∀ x : Ex, zji (fun y => y) x = x
 | .nd o i a => by rw [zji, zus a]
theorem zus : ∀ l : List Ex, mapL (fun y => y) l = l
 | [] => by rw [mapL]
 | x :: xs => by rw [mapL, map_id x, zus xs]
end
theorem znv {n ix : Int} {args : List Ex} (h : nds n (.nd 1 ix args) = 0) : 0 ≤ ix ∧ ix < n := by
 obtain ⟨hv, _⟩ := zch h
 obtain ⟨_, _, _, _, h4, h5⟩ := zfu hv
 have : zc4 1 n = n - 1 := by simp [zc4]
 omega
theorem zll {l : List Ex} {i : Nat} (h : i < l.length) (d : Ex) : l.getD i d ∈ l := by
 rw [List.getD_eq_getElem?_getD, List.getElem?_eq_getElem h]
 exact List.getElem_mem h
theorem zqz {l : List Ex} (hl : ∀ y ∈ l, Slim y) : ∀ (q : Nat) (x : Ex), SizeOf.sizeOf x ≤ q → nds (l.length : Nat) x = 0 → Slim x → Slim (zeo l x) := by
 intro q
 induction q with
 | zero => intro x hq; cases x; simp at hq
 | succ q ih =>
  intro x hq hx hs
  obtain ⟨op, ix, args⟩ := x
  rw [zqn]
  split
  ·rename_i h
   subst h
   obtain ⟨a, b⟩ := znv hx
   exact hl _ (zll (by omega) _)
  ·obtain ⟨h1, h2⟩ := zh5 hs
   refine .nd (by rw [List.length_map]; exact h1) fun z hz => ?_
   obtain ⟨y, hy, rfl⟩ := List.mem_map.1 hz
   exact ih y (by have := zed (op := op) (ix := ix) hy; omega) ((zch hx).2 y hy) (h2 y hy)
theorem put_rgt {n : Int} {l : List Ex} (hl : ∀ y ∈ l, nds n y = 0) : ∀ (q : Nat) (x : Ex), SizeOf.sizeOf x ≤ q → nds (l.length : Nat) x = 0 → nds n (zeo l x) = 0 := by
 intro q
 induction q with
 | zero => intro x hq; cases x; simp at hq
 | succ q ih =>
  intro x hq hx
  obtain ⟨op, ix, args⟩ := x
  rw [zqn]
  split
  ·rename_i h
   subst h
   obtain ⟨a, b⟩ := znv hx
   exact hl _ (zll (by omega) _)
  ·rename_i h
   obtain ⟨hv, hk⟩ := zch hx
   refine znf ?_ fun z hz => ?_
   ·rw [List.length_map]
    obtain ⟨a, b, c, d, e, f⟩ := zfu hv
    exact zi6 a b c d e (by unfold zc4 at f ⊢; rw [if_neg h] at f ⊢; exact f)
   ·obtain ⟨y, hy, rfl⟩ := List.mem_map.1 hz
    exact ih y (by have := zed (op := op) (ix := ix) hy; omega) (hk y hy)
theorem put_hold (v : List Bool) {l : List Ex} : ∀ (q : Nat) (x : Ex), SizeOf.sizeOf x ≤ q → nds (l.length : Nat) x = 0 → zck v (zeo l x) = zck (l.map (zck v)) x := by
 intro q
 induction q with
 | zero => intro x hq; cases x; simp at hq
 | succ q ih =>
  intro x hq hx
  obtain ⟨op, ix, args⟩ := x
  rw [zqn]
  split
  ·rename_i h
   subst h
   obtain ⟨a, b⟩ := znv hx
   have hi : ix.toNat < l.length := by omega
   rw [zck, if_neg (by decide), if_pos rfl, List.getD_eq_getElem?_getD, List.getD_eq_getElem?_getD, List.getElem?_map, List.getElem?_eq_getElem hi]
   rfl
  ·rename_i h
   have : zg8 v (args.map (zeo l)) = zg8 (l.map (zck v)) args := by
    rw [zgs, zgs, List.map_map]
    exact List.map_congr_left fun y hy => ih y (by have := zed (op := op) (ix := ix) hy; omega) ((zch hx).2 y hy)
   rw [zck, zck, this, if_neg h, if_neg h]
def zoj (n : Int) : List Ex → Int
 | [] => 0
 | y :: ys => if zbq y n = 0 then zoj n ys else zbq y n
theorem zn1 {n : Int} {l : List Ex} {i : Nat} (h : i < l.length) : zoj n (l.drop i) = if zbq l[i] n = 0 then zoj n (l.drop (i + 1)) else zbq l[i] n := by
 rw [List.drop_eq_getElem_cons h]; rfl
theorem zli {n : Int} : ∀ {l : List Ex}, zoj n l = 0 → ∀ y ∈ l, zbq y n = 0
 | y :: ys, h, z, hz => by
  unfold zoj at h
  split at h
  ·rename_i e
   rcases List.mem_cons.1 hz with rfl | hz
   ·exact e
   ·exact zli h z hz
  ·rename_i e; exact absurd h e
theorem zn2 {n : Int} : ∀ {l : List Ex}, (∀ y ∈ l, zbq y n = 0) → zoj n l = 0
 | [], _ => rfl
 | y :: ys, h => by
  unfold zoj
  rw [if_pos (h y (List.mem_cons_self ..))]
  exact zn2 fun z hz => h z (List.mem_cons_of_mem _ hz)
def subV (x : Ex) (l : List Ex) (n : Int) : AV :=
 if zbq x (l.length : Nat) ≠ 0 then .tup [.agg (cX (.nd 0 0 [])), .int .i64 (zbq x (l.length : Nat))]
 else if zoj n l ≠ 0 then .tup [.agg (cX (.nd 0 0 [])), .int .i64 (zoj n l)]
 else if zcj (zeo l x) = true then .tup [.agg (cX (zeo l x)), .int .i64 0] else .tup [.agg (cX (.nd 0 0 [])), .int .i64 5]
end Go.Proofs.Ytmnkjofaodbokaa
namespace Go.Proofs.Ytmnkjofaodbokaa
open Go Go.Am
theorem copy57 {x : Ex} (hs : szX x ≤ 256) : PF Try.prog 57 [.agg (cX x), .fn 61 [] []] (.agg (cX x)) := by
 have := zm1 61 [] rfl rfl (fun _ => rfl) (fun _ => rfl) (fun y => y) (fun y => szX y ≤ 256) (fun op ix args h => by
  have hll := zbx args
  have h' := h
  rw [szX] at h'
  exact ⟨by omega, fun y hy => by have := zeu (op := op) (ix := ix) hy; omega, id61 _⟩) _ x (Nat.le_refl _) hs
 rw [map_id] at this
 exact this
-- pneumatic/boolexp.Substitute$1
def ic60 : IC := .seq (.region [⟨(some 2), .box (.t 0), none⟩,
  ⟨(some 3), .alloc [.int .i64 0, .int .i64 0, .nils], none⟩] none)
 (.seq (.seq (.region [⟨(some 4), .faddr 0 (.t 2), none⟩,
  ⟨(some 5), .load none (.t 4), none⟩,
  ⟨(some 6), .bin .eql (.t 5) (.c (.int .i64 1)), none⟩] none)
 (.cond (.t 6) (.seq (.region [⟨(some 7), .load none (.t 1), none⟩,
  ⟨(some 8), .faddr 1 (.t 2), none⟩,
  ⟨(some 9), .load none (.t 8), none⟩,
  ⟨(some 10), .idxs 3 (.t 7) (.t 9), none⟩,
  ⟨(some 11), .load (some 3) (.t 10), none⟩,
  ⟨(some 12), .call (.c (.fn 57 [] [])) [(.t 11), (.c (.fn 61 [] []))], none⟩,
  ⟨none, .store 3 (.t 3) (.t 12), none⟩] none)
 (.ret))
 (.skip)))
 (.seq (.region [⟨(some 13), .load (some 3) (.t 2), none⟩,
  ⟨none, .store 3 (.t 3) (.t 13), none⟩] none)
 (.ret)))
theorem fn60 : env0.fn 60 = some ⟨14, ic60, [.cell 3 (some 3)]⟩ := by kernel_rfl
theorem sub60 (l : List Ex) (hl : ∀ y ∈ l, szX y ≤ 256) (y : Ex) (hy : opX y = 1 → 0 ≤ ixX y ∧ ixX y < (l.length : Nat)) : PF Try.prog 60 [.agg (cX y), .vptr [.vs (cXs l)]] (.agg (cX (sub1 l y))) := by
 have hsub : sub1 l y = if opX y = 1 then l.getD (ixX y).toNat (zeg false) else y := rfl
 have p57 : opX y = 1 → PF Try.prog 57 [.agg (cX (l.getD (ixX y).toNat (zeg false))), .fn 61 [] []] (.agg (cX (l.getD (ixX y).toNat (zeg false)))) := fun e => copy57 (hl _ (zll (by have := hy e; omega) _))
 have hge : opX y = 1 → (cXs l)[(ixX y).toNat]? = some (cX (l.getD (ixX y).toNat (zeg false))) := fun e => by
  have hi : (ixX y).toNat < l.length := by have := hy e; omega
  rw [zfd, List.getElem?_map, List.getD_eq_getElem?_getD, List.getElem?_eq_getElem hi]
  rfl
 generalize sub1 l y = R at *
 generalize l.getD (ixX y).toNat (zeg false) = z at *
 obtain ⟨op, ix, args⟩ := y
 replace hsub : R = if op = 1 then z else .nd op ix args := hsub
 replace p57 : op = 1 → PF Try.prog 57 [.agg (cX z), .fn 61 [] []] (.agg (cX z)) := p57
 replace hge : op = 1 → (cXs l)[ix.toNat]? = some (cX z) := hge
 replace hy : op = 1 → 0 ≤ ix ∧ ix < (l.length : Nat) := hy
 refine zb3 env0_ok fn60 [(0, .agg (cX (.nd op ix args))), (1, .vptr [.vs (cXs l)])] (by show 2 ≤ 14; decide) rfl fun w0 N0 => ?_
 unfold ic60
 refine za6 (za0 rfl (zbd rfl rfl (zam (za3 (za2 ?_)))))
 refine zce [(some (1, 1), [.int .i64 0, .int .i64 0, .nils])] [(0, 0, cX (.nd op ix args))] [(1, .vptr [.vs (cXs l)]), (2, .vptr (cX (.nd op ix args))), (3, .mptr 0 0 0)] rfl (.cons rfl rfl .nil) (.cons rfl (.cons (.same rfl) (.cons (.same rfl) (.cons (.same rfl) .nil))) .nil) (.cons rfl (.same rfl) (.cons rfl (.fptr rfl rfl) (.cons rfl (.mptr rfl) .nil))) ?_
 repeat (first | refine za6 ?_ | refine za0 rfl ?_ | refine zai rfl rfl ?_ | refine zap rfl rfl rfl ?_)
 refine zaw rfl rfl rfl (fun h => ?_) fun h => ?_
 ·have h : op = 1 := by simpa using h
  have p57 := p57 h
  have hge := hge h
  obtain ⟨h0, hlt⟩ := hy h
  rw [if_pos h] at hsub
  subst hsub
  obtain ⟨zo, zi, za⟩ := R
  repeat (first | refine za6 ?_ | refine za0 rfl ?_ | refine za3 ?_ | refine za2 ?_ | refine zbg rfl ?_ | refine zai rfl rfl ?_ | refine zaa rfl rfl rfl rfl ?_ | refine zap rfl rfl rfl ?_ | refine zb4 rfl rfl (by omega) (by assumption) rfl ?_)
  refine zar rfl rfl p57 (fun h => Bool.noConfusion (show false = true from h)) ?_
  repeat (first | refine za3 ?_ | refine za2 ?_ | refine zah ?_ | refine za5 ?_ | refine za8 rfl rfl rfl rfl rfl rfl rfl ?_)
  exact zak ⟨.inr rfl, _, rfl, rfl⟩
 ·have h : ¬ op = 1 := by simpa using h
  rw [if_neg h] at hsub
  subst hsub
  repeat (first | refine za6 ?_ | refine za0 rfl ?_ | refine za3 ?_ | refine za2 ?_ | refine zae ?_ | refine zbl rfl ?_ | refine zah ?_ | refine zaa rfl rfl rfl rfl ?_ | refine za8 rfl rfl rfl rfl rfl rfl rfl ?_)
  exact zak ⟨.inr rfl, _, rfl, rfl⟩
theorem zrp {l : List Ex} (hl : ∀ y ∈ l, szX y ≤ 256) {x : Ex} (hx : nds (l.length : Nat) x = 0) (hs : szX x ≤ 256) : PF Try.prog 57 [.agg (cX x), .fn 60 [] [.vptr [.vs (cXs l)]]] (.agg (cX (zeo l x))) := by
 refine zm1 60 [.vptr [.vs (cXs l)]] rfl rfl (fun _ => rfl) (fun _ => rfl) (sub1 l) (fun y => nds (l.length : Nat) y = 0 ∧ szX y ≤ 256) (fun op ix args ⟨h1, h2⟩ => ?_) _ x (Nat.le_refl _) ⟨hx, hs⟩
 have hll := zbx args
 have h2' := h2
 rw [szX] at h2'
 refine ⟨by omega, fun y hy => ⟨(zch h1).2 y hy, by have := zeu (op := op) (ix := ix) hy; omega⟩, sub60 l hl _ fun e => ?_⟩
 have e : op = 1 := e
 subst e
 exact znv h1
def b62_0 : IC := .seq (.seq (.region [⟨(some 20), .mov (.t 6), none⟩,
  ⟨(some 21), .faddr 2 (.t 2), none⟩,
  ⟨(some 22), .load none (.t 21), none⟩,
  ⟨(some 23), .len false (.t 22), none⟩,
  ⟨(some 24), .bin .lss (.t 20) (.t 23), none⟩] none)
 (.cond (.t 24) (.skip)
 (.exit 0)))
 (.seq (.block 1 (.region [⟨(some 27), .faddr 2 (.t 5), none⟩,
  ⟨(some 28), .load none (.t 27), none⟩,
  ⟨(some 29), .faddr 2 (.t 2), none⟩,
  ⟨(some 30), .load none (.t 29), none⟩,
  ⟨(some 31), .mov (.t 6), none⟩,
  ⟨(some 32), .idxs 3 (.t 30) (.t 31), none⟩,
  ⟨(some 33), .load (some 3) (.t 32), none⟩,
  ⟨(some 34), .mov (.t 1), none⟩,
  ⟨(some 35), .call (.c (.fn 62 [] [])) [(.t 33), (.t 34)], none⟩,
  ⟨(some 36), .bslice 3 1 [.int .i64 0, .int .i64 0, .nils] [(0, 3, (.t 35))], none⟩,
  ⟨(some 37), .append 3 40 [.int .i64 0, .int .i64 0, .nils] (.t 28) (.t 36), none⟩,
  ⟨(some 38), .faddr 2 (.t 5), none⟩,
  ⟨none, .store 1 (.t 38) (.t 37), none⟩] (some [[], [0], [], [2], [], [3, 4], [5], [], [6, 7], [8], [1, 9, 8], [0, 1, 2, 3, 4, 5, 6, 7, 8, 9, 10], [11, 10, 10, 0, 1, 2, 3, 4, 5, 6, 7, 8, 9, 10]])))
 (.region [⟨(some 25), .mov (.t 6), none⟩,
  ⟨(some 26), .bin .add (.t 25) (.c (.int .i64 1)), none⟩,
  ⟨(some 6), .mov (.t 26), none⟩] none))
-- pneumatic/pneumaticref05.Put
def ic62 : IC := .seq (.region [⟨(some 2), .box (.t 0), none⟩,
  ⟨(some 4), .alloc [.int .i64 0, .int .i64 0, .nils], none⟩] none)
 (.seq (.seq (.region [⟨(some 7), .faddr 0 (.t 2), none⟩,
  ⟨(some 8), .load none (.t 7), none⟩,
  ⟨(some 9), .bin .eql (.t 8) (.c (.int .i64 1)), none⟩] none)
 (.cond (.t 9) (.seq (.region [⟨(some 10), .mov (.t 1), none⟩,
  ⟨(some 11), .faddr 1 (.t 2), none⟩,
  ⟨(some 12), .load none (.t 11), none⟩,
  ⟨(some 13), .idxs 3 (.t 10) (.t 12), none⟩,
  ⟨(some 14), .load (some 3) (.t 13), none⟩,
  ⟨none, .store 3 (.t 4) (.t 14), none⟩] none)
 (.ret))
 (.skip)))
 (.seq (.region [⟨(some 15), .faddr 0 (.t 2), none⟩,
  ⟨(some 16), .load none (.t 15), none⟩,
  ⟨(some 17), .faddr 1 (.t 2), none⟩,
  ⟨(some 18), .load none (.t 17), none⟩,
  ⟨(some 19), .build [.int .i64 0, .int .i64 0, .nils] [(0, 1, (.t 16)), (1, 1, (.t 18))], none⟩,
  ⟨(some 5), .alloc [.int .i64 0, .int .i64 0, .nils], none⟩,
  ⟨none, .store 3 (.t 5) (.t 19), none⟩] none)
 (.seq (.seq (.region [⟨(some 6), .mov (.c (.int .i64 0)), none⟩] none)
 (.block 0 (.loop b62_0)))
 (.seq (.region [⟨(some 39), .load (some 3) (.t 5), none⟩,
  ⟨none, .store 3 (.t 4) (.t 39), none⟩] none)
 (.ret)))))
theorem fn62 : env0.fn 62 = some ⟨40, ic62, [.cell 4 (some 3)]⟩ := by kernel_rfl
theorem res_agg3 {S : AS} {a : Nat} {pa x y z : AV} (h1 : S.get a = some pa) (d1 : S.deref pa = some [x, y, z]) : S.res [.cell a (some 3)] = some (.agg [x, y, z]) := by
 simp [AS.res, AS.resL, zrn, h1, d1]
theorem trip_eq {a b c c' : AV} (h : c = c') : [a, b, c] = [a, b, c'] := by rw [h]
set_option maxHeartbeats 4000000 in
theorem put62 {l : List Ex} (hl : ∀ y ∈ l, szX y ≤ 256) : ∀ (m : Nat) (x : Ex), SizeOf.sizeOf x ≤ m → nds (l.length : Nat) x = 0 → szX x ≤ 256 → PF Try.prog 62 [.agg (cX x), .vs (cXs l)] (.agg (cX (zeo l x))) := by
 intro m
 induction m with
 | zero => intro x hq; cases x; simp at hq
 | succ m ih =>
  intro x hq hx hs
  obtain ⟨op, ix, args⟩ := x
  have hll := zbx args
  have hsa : szL args ≤ 255 := by rw [szX] at hs; omega
  have hR : zeo l (.nd op ix args) = if op = 1 then l.getD ix.toNat (zeg false) else .nd op ix (args.map (zeo l)) := zqn l op ix args
  have hpy : ∀ y ∈ args, PF Try.prog 62 [.agg (cX y), .vs (cXs l)] (.agg (cX (zeo l y))) := fun y hy => ih y (by have := zed (op := op) (ix := ix) hy; omega) ((zch hx).2 y hy) (by have := zeu (op := op) (ix := ix) hy; omega)
  have hge : op = 1 → 0 ≤ ix ∧ ix < (l.length : Nat) ∧ (cXs l)[ix.toNat]? = some (cX (l.getD ix.toNat (zeg false))) := fun e => by
   subst e
   obtain ⟨a, b⟩ := znv hx
   have hi : ix.toNat < l.length := by omega
   refine ⟨a, b, ?_⟩
   rw [zfd, List.getElem?_map, List.getD_eq_getElem?_getD, List.getElem?_eq_getElem hi]
   rfl
  generalize zeo l (.nd op ix args) = R at *
  generalize l.getD ix.toNat (zeg false) = z at *
  clear ih
  refine zb3 env0_ok fn62 [(0, .agg (cX (.nd op ix args))), (1, .vs (cXs l))] (by show 2 ≤ 40; decide) rfl fun w0 N0 => ?_
  unfold ic62
  refine za6 (za0 rfl (zbd rfl rfl (zam (za3 (za2 ?_)))))
  refine zce [(some (1, 1), [.int .i64 0, .int .i64 0, .nils])] [(0, 0, cX (.nd op ix args))] [(1, .vs (cXs l)), (2, .vptr (cX (.nd op ix args))), (4, .mptr 0 0 0)] rfl (.cons rfl rfl .nil) (.cons rfl (.cons (.same rfl) (.cons (.same rfl) (.cons (.same rfl) .nil))) .nil) (.cons rfl (.same rfl) (.cons rfl (.fptr rfl rfl) (.cons rfl (.mptr rfl) .nil))) ?_
  repeat (first | refine za6 ?_ | refine za0 rfl ?_ | refine zai rfl rfl ?_ | refine zap rfl rfl rfl ?_)
  refine zaw rfl rfl rfl (fun h => ?_) fun h => ?_
  ·have h : op = 1 := by simpa using h
   obtain ⟨h0, h1, hg⟩ := hge h
   rw [if_pos h] at hR
   subst hR
   obtain ⟨zo, zi, za⟩ := R
   repeat (first | refine za6 ?_ | refine za0 rfl ?_ | refine za3 ?_ | refine za2 ?_ | refine zbg rfl ?_ | refine zah ?_ | refine za5 ?_ | refine za4 rfl ?_ | refine zai rfl rfl ?_ | refine zaa rfl rfl rfl rfl ?_ | refine za8 rfl rfl rfl rfl rfl rfl rfl ?_ | refine zap rfl rfl rfl ?_ | refine zb4 rfl rfl (by omega) (by assumption) rfl ?_)
   exact zak ⟨.inr rfl, _, rfl, rfl⟩
  ·have h : ¬ op = 1 := by simpa using h
   rw [if_neg h] at hR
   subst hR
   clear hge
   repeat (first | refine za6 ?_ | refine za0 rfl ?_ | refine za3 ?_ | refine za2 ?_ | refine zal ?_ | refine zae ?_ | refine zbl rfl ?_ | refine za4 rfl ?_ | refine zai rfl rfl ?_ | refine za8 rfl rfl rfl rfl rfl rfl rfl ?_ | refine zap rfl rfl rfl ?_ | refine zam ?_ | refine zb0 rfl rfl ?_)
   refine zce [(some (0, 0), [.int .i64 0, .int .i64 0, .nils]), (some (1, 1), [.int .i64 op, .int .i64 ix, .nils])] [] [(1, .vs (cXs l)), (2, .vptr (cX (.nd op ix args))), (4, .mptr 0 0 0), (5, .mptr 1 0 0), (6, .int .i64 0)] rfl .nil (.cons rfl (.cons (.same rfl) (.cons (.same rfl) (.cons (.same rfl) .nil))) (.cons rfl (.cons (.same rfl) (.cons (.same rfl) (.cons (.same rfl) .nil))) .nil)) (.cons rfl (.same rfl) (.cons rfl (.same rfl) (.cons rfl (.mptr rfl) (.cons rfl (.mptr rfl) (.cons rfl (.same rfl) .nil))))) ?_
   refine zd9 (fun mm S => ∃ i v hp nx ck, mm = args.length - i ∧ i ≤ args.length ∧ Mq .nils op ix ((args.take i).map (zeo l)) v v hp nx ∧ S = st 40 [(1, .vs (cXs l)), (2, .vptr (cX (.nd op ix args))), (4, .mptr 0 0 0), (5, .mptr 1 0 0), (6, .int .i64 (i : Nat))] hp nx ck) args.length
    (zat (.cons rfl (.cons rfl (.cons rfl (.cons rfl (.cons rfl .nil)))))) ⟨0, .nils, _, _, _, rfl, Nat.zero_le _, ⟨rfl, rfl, .inl ⟨rfl, rfl⟩, (by show 1 < 2; decide)⟩, rfl⟩ ?_
   rintro mm S ⟨i, v, hp, nx, ck, rfl, hi, hF, rfl⟩
   have hql : ((args.take i).map (zeo l)).length ≤ 1000000 := by rw [List.length_map, List.length_take]; omega
   have hcl := zan args
   unfold b62_0
   repeat (first | refine za6 ?_ | refine za0 rfl ?_ | refine za4 rfl ?_ | refine zai rfl rfl ?_ | refine zap rfl rfl rfl ?_ | refine zbf rfl rfl ?_)
   refine zaw rfl rfl rfl (fun h3 => ?_) fun h3 => ?_
   ·have hlt : i < args.length := by
     have h4 : ((i : Nat) : Int) < (((cXs args).length : Nat) : Int) := of_decide_eq_true h3
     omega
    have w1 : IntKind.wrap .i64 (((i : Nat) : Int) + 1) = ((i + 1 : Nat) : Int) := zbo i (by omega)
    have hge := zcg hlt
    have py := hpy args[i] (List.getElem_mem hlt)
    have hsn : (args.take (i + 1)).map (zeo l) = (args.take i).map (zeo l) ++ [zeo l args[i]] := by
     rw [List.take_add_one, List.getElem?_eq_getElem hlt, List.map_append]; rfl
    generalize args[i] = y at *
    generalize zeo l y = gy at *
    obtain ⟨yo, yi, ya⟩ := y
    obtain ⟨go, gi, ga⟩ := gy
    repeat (first | refine za6 ?_ | refine za3 ?_ | refine za2 ?_ | refine zal ?_ | refine zae ?_ | refine zbg rfl ?_)
    refine zev env0_ok [(62, [.agg (cX (.nd yo yi ya)), .vs (cXs l)], .agg (cX (.nd go gi ga)))] (fun x hx => by
     obtain rfl := List.mem_singleton.1 hx
     exact py) (fun f => Nat.beq f 62) rfl rfl rfl ?_
    repeat (first | refine za9 rfl ?_)
    refine zv2 (id := 1) (sp := 0) (off := 0 + 2) rfl hF.out hF.nx1 rfl ?_
    repeat (first | refine za4 rfl ?_ | refine zai rfl rfl ?_ | refine zaa rfl rfl rfl rfl ?_ | refine zap rfl rfl rfl ?_ | refine zb4 rfl rfl (by omega) (by assumption) rfl ?_)
    refine zar rfl rfl zci (fun h => Bool.noConfusion (show false = true from h)) ?_
    repeat (first | refine zav rfl rfl ?_)
    refine zng (x0 := .nd go gi ga) (fun _ => rfl) (hF.fresh _ (.cells (cX (.nd go gi ga)))).lst (hF.fresh ck (.cells [])).nx1 hql rfl rfl zbs (by decide) fun w' hp' nx' ck' hG hb hk => ?_
    have hF2 : Mq .nils op ix ((args.take i).map (zeo l) ++ [.nd go gi ga]) v w' hp' nx' :=
     ⟨by rw [hk 0 (by decide)]; exact (hF.fresh _ _).res, by rw [hk 1 (by decide)]; exact (hF.fresh _ _).out, hG, hb⟩
    repeat (first | refine za9 rfl ?_)
    refine zqf (id := 1) (sp := 0) (off := 0 + 2) rfl rfl hG.cell.2 hF2.out (by simp) hG.cell.1 ?_
    repeat (first | refine za0 rfl ?_ | refine za3 ?_ | refine za2 ?_ | refine zbk ?_ | refine za4 rfl ?_ | refine zaz (op := .add) rfl rfl rfl ?_)
    rw [w1]
    exact zbz (show args.length - (i + 1) < args.length - i by omega) (zat (.cons rfl (.cons rfl (.cons rfl (.cons rfl (.cons rfl .nil)))))) ⟨i + 1, w', _, _, _, rfl, hlt, by rw [hsn]; exact hF2.store w', rfl⟩
   ·have hie : i = args.length := by
     have h4 : ¬ ((i : Nat) : Int) < (((cXs args).length : Nat) : Int) := of_decide_eq_false h3
     omega
    subst hie
    rw [List.take_length] at hF
    repeat (first | refine za3 ?_ | refine za2 ?_ | refine zbl rfl ?_ | refine zb8 ?_ | refine zaf ?_)
    refine zdq ?_
    repeat (first | refine za6 ?_ | refine za0 rfl ?_ | refine za2 ?_ | refine zb7 ?_)
    refine zfv (id := 1) (sp := 0) (off := 0) rfl hF.out hF.nx1 rfl rfl ?_
    refine za8 (id := 0) (sp := 0) (off := 0) (v := .agg [.int .i64 op, .int .i64 ix, v]) (vs := [.int .i64 op, .int .i64 ix, v]) rfl rfl rfl rfl hF.res rfl (by rw [List.all_cons, List.all_cons, List.all_cons, hF.lst.cell.1]; rfl) ?_
    repeat (first | refine za3 ?_ | refine za2 ?_ | refine zah ?_)
    refine zak ⟨.inr rfl, _, res_agg3 ((zen 4).trans rfl) (zdi (id := 0) (sp := 0) (cs := [.int .i64 op, .int .i64 ix, v]) (by show Am.look 0 (zc3 0 _ hp) = _; rw [za1, if_pos rfl]; rfl) (show 0 < nx by have := hF.nx1; omega)), ?_⟩
    have hv : Gx 0 (args.map (zeo l)) v (zc3 0 (0, .cells [.int .i64 op, .int .i64 ix, v]) hp) nx := by
     rcases hF.lst with h2 | ⟨id, sp, e, hl, a, b⟩
     ·exact .inl h2
     ·exact .inr ⟨id, sp, e, by rw [za1, if_neg (by omega)]; exact hl, by omega, b⟩
    exact congrArg AV.agg (trip_eq hv.view)
end Go.Proofs.Ytmnkjofaodbokaa
namespace Go.Proofs.Ytmnkjofaodbokaa
open Go Go.Am
def b25_0 : IC := .seq (.region [⟨(some 27), .bin .lss (.t 26) (.t 25), none⟩] none)
 (.seq (.cond (.t 27) (.skip)
 (.exit 0))
 (.seq (.block 1 (.seq (.region [⟨(some 28), .idxs 3 (.t 24) (.t 26), none⟩,
  ⟨(some 29), .load (some 3) (.t 28), none⟩,
  ⟨(some 10), .alloc [.int .i64 0, .int .i64 0, .nils], none⟩,
  ⟨none, .store 3 (.t 10) (.t 29), none⟩] none)
 (.seq (.region [⟨(some 30), .load (some 3) (.t 10), none⟩,
  ⟨(some 31), .mov (.t 2), none⟩,
  ⟨(some 32), .call (.c (.fn 32 [] [])) [(.t 30), (.t 31)], none⟩,
  ⟨(some 11), .mov (.t 32), none⟩] none)
 (.seq (.region [⟨(some 33), .mov (.t 11), none⟩,
  ⟨(some 34), .bin .neq (.t 33) (.c (.int .i64 0)), none⟩] none)
 (.cond (.t 34) (.seq (.region [⟨(some 35), .build [.int .i64 0, .int .i64 0, .nils] [], none⟩,
  ⟨(some 36), .mov (.t 11), none⟩,
  ⟨none, .store 3 (.t 6) (.t 35), none⟩,
  ⟨(some 7), .mov (.t 36), none⟩] none)
 (.ret))
 (.skip))))))
 (.region [⟨(some 37), .bin .add (.t 26) (.c (.int .i64 1)), none⟩,
  ⟨(some 26), .mov (.t 37), none⟩] none)))
-- pneumatic/boolexp.Substitute
def ic25 : IC := .seq (.region [⟨(some 3), .box (.t 0), none⟩,
  ⟨(some 4), .box (.t 1), none⟩,
  ⟨(some 6), .alloc [.int .i64 0, .int .i64 0, .nils], none⟩,
  ⟨(some 7), .mov (.c (.int .i64 0)), none⟩] none)
 (.seq (.seq (.region [⟨(some 16), .load (some 3) (.t 3), none⟩,
  ⟨(some 17), .load none (.t 4), none⟩,
  ⟨(some 18), .len false (.t 17), none⟩,
  ⟨(some 19), .call (.c (.fn 32 [] [])) [(.t 16), (.t 18)], none⟩,
  ⟨(some 8), .mov (.t 19), none⟩] none)
 (.seq (.region [⟨(some 20), .mov (.t 8), none⟩,
  ⟨(some 21), .bin .neq (.t 20) (.c (.int .i64 0)), none⟩] none)
 (.cond (.t 21) (.seq (.region [⟨(some 22), .build [.int .i64 0, .int .i64 0, .nils] [], none⟩,
  ⟨(some 23), .mov (.t 8), none⟩,
  ⟨none, .store 3 (.t 6) (.t 22), none⟩,
  ⟨(some 7), .mov (.t 23), none⟩] none)
 (.ret))
 (.skip))))
 (.seq (.seq (.region [⟨(some 24), .load none (.t 4), none⟩,
  ⟨(some 25), .len false (.t 24), none⟩,
  ⟨(some 26), .mov (.c (.int .i64 0)), none⟩] none)
 (.block 0 (.loop b25_0)))
 (.seq (.region [⟨(some 38), .load (some 3) (.t 3), none⟩,
  ⟨(some 39), .mkfn 60 [] [(.t 4)], none⟩,
  ⟨(some 40), .call (.c (.fn 57 [] [])) [(.t 38), (.t 39)], none⟩,
  ⟨(some 12), .alloc [.int .i64 0, .int .i64 0, .nils], none⟩,
  ⟨none, .store 3 (.t 12) (.t 40), none⟩] none)
 (.seq (.seq (.region [⟨(some 42), .load (some 3) (.t 12), none⟩,
  ⟨(some 43), .call (.c (.fn 47 [] [])) [(.t 42)], none⟩,
  ⟨(some 41), .mov (.t 43), none⟩,
  ⟨(some 44), .extract (.t 41) 0, none⟩,
  ⟨(some 45), .extract (.t 41) 1, none⟩,
  ⟨(some 46), .extract (.t 41) 2, none⟩,
  ⟨(some 13), .mov (.t 44), none⟩,
  ⟨(some 14), .mov (.t 45), none⟩,
  ⟨(some 15), .mov (.t 46), none⟩] none)
 (.seq (.region [⟨(some 47), .mov (.t 15), none⟩,
  ⟨(some 48), .un .not (.t 47), none⟩] none)
 (.cond (.t 48) (.seq (.region [⟨(some 49), .build [.int .i64 0, .int .i64 0, .nils] [], none⟩,
  ⟨none, .store 3 (.t 6) (.t 49), none⟩,
  ⟨(some 7), .mov (.c (.int .i64 5)), none⟩] none)
 (.ret))
 (.skip))))
 (.seq (.region [⟨(some 50), .load (some 3) (.t 12), none⟩,
  ⟨none, .store 3 (.t 6) (.t 50), none⟩,
  ⟨(some 7), .mov (.c (.int .i64 0)), none⟩] none)
 (.ret))))))
theorem fn25 : env0.fn 25 = some ⟨51, ic25, [.cell 6 (some 3), .t 7]⟩ := by kernel_rfl
set_option maxHeartbeats 4000000 in
theorem zhx (x : Ex) (hs : Slim x) (l : List Ex) (hl : l.length ≤ 8) (hls : ∀ y ∈ l, Slim y) (n : Int) : PF Try.prog 25 [.agg (cX x), .vs (cXs l), .int .i64 n] (subV x l n) := by
 have hcl := zan l
 have p32 := zit x hs (l.length : Nat)
 rw [zek] at p32
 have q32 : ∀ y ∈ l, PF Try.prog 32 [.agg (cX y), .int .i64 n] (.int .i64 (zbq y n)) := fun y hy => by
  have := zit y (hls y hy) n
  rw [zek] at this
  exact this
 have p57 : zbq x (l.length : Nat) = 0 → zoj n l = 0 → PF Try.prog 57 [.agg (cX x), .fn 60 [] [.vptr [.vs (cXs l)]]] (.agg (cX (zeo l x))) := fun h k => zrp (fun y hy => ziv (zli k y hy)) (zfl h) (ziv h)
 have p47 : zbq x (l.length : Nat) = 0 → PF Try.prog 47 [.agg (cX (zeo l x))] (if zcj (zeo l x) = true then .tup [.int .i64 (szX (zeo l x)), .int .i64 (dpX (zeo l x)), .bool true] else .tup [.int .i64 0, .int .i64 0, .bool false]) := fun h => by
  have := zne _ (zqz hls _ x (Nat.le_refl _) (zfl h) hs)
  rw [zrq] at this
  exact this
 unfold subV
 generalize hc : zbq x (l.length : Nat) = c at *
 generalize hE : zoj n l = E at *
 generalize zeo l x = R at *
 generalize szX R = s1 at *
 generalize dpX R = d1 at *
 generalize zcj R = li at *
 obtain ⟨op, ix, args⟩ := x
 refine zb3 env0_ok fn25 [(0, .agg (cX (.nd op ix args))), (1, .vs (cXs l)), (2, .int .i64 n)] (by show 3 ≤ 51; decide) rfl fun w0 N0 => ?_
 unfold ic25
 refine za6 (za0 rfl (zbd rfl rfl (zbd rfl rfl (zam (za4 rfl (za3 (za2 ?_)))))))
 refine zce [(some (2, 2), [.int .i64 0, .int .i64 0, .nils])] [(0, 0, cX (.nd op ix args)), (1, 1, [.vs (cXs l)])] [(2, .int .i64 n), (3, .vptr (cX (.nd op ix args))), (4, .vptr [.vs (cXs l)]), (6, .mptr 0 0 0)] rfl (.cons rfl rfl (.cons rfl rfl .nil)) (.cons rfl (.cons (.same rfl) (.cons (.same rfl) (.cons (.same rfl) .nil))) .nil) (.cons rfl (.same rfl) (.cons rfl (.fptr rfl rfl) (.cons rfl (.fptr rfl rfl) (.cons rfl (.mptr rfl) .nil)))) ?_
 repeat (first | refine za6 ?_ | refine za0 rfl ?_ | refine zai rfl rfl ?_ | refine zaa rfl rfl rfl rfl ?_ | refine zbf rfl rfl ?_)
 refine zar rfl (by rw [hcl]; rfl) p32 (fun h => Bool.noConfusion (show false = true from h)) ?_
 repeat (first | refine za6 ?_ | refine za0 rfl ?_ | refine za3 ?_ | refine za2 ?_ | refine za4 rfl ?_)
 refine zaw rfl rfl rfl (fun h => ?_) fun h => ?_
 ·rw [if_pos (bne_iff_ne.1 h)]
  repeat (first | refine za6 ?_ | refine za0 rfl ?_ | refine za3 ?_ | refine za2 ?_ | refine zbg rfl ?_ | refine zah ?_ | refine za5 ?_ | refine za4 rfl ?_ | refine za8 rfl rfl rfl rfl rfl rfl rfl ?_ | refine zb0 rfl rfl ?_)
  exact zak ⟨.inr rfl, _, rfl, rfl⟩
 have h0 : c = 0 := by simpa using h
 rw [if_neg (fun k => k h0)]
 repeat (first | refine za6 ?_ | refine za0 rfl ?_ | refine za3 ?_ | refine za2 ?_ | refine zal ?_ | refine zae ?_ | refine zbl rfl ?_ | refine za4 rfl ?_ | refine zai rfl rfl ?_ | refine zbf rfl rfl ?_)
 refine zd9 (fun mm S => ∃ i hp nx ck, mm = l.length - i ∧ i ≤ l.length ∧ zoj n (l.drop i) = E ∧ Am.look 0 hp = some (0, .cells [.int .i64 0, .int .i64 0, .nils]) ∧ S = st 51 [(2, .int .i64 n), (3, .vptr (cX (.nd op ix args))), (4, .vptr [.vs (cXs l)]), (6, .mptr 0 0 0), (24, .vs (cXs l)), (25, .int .i64 ((cXs l).length : Nat)), (26, .int .i64 (i : Nat))] hp nx ck) l.length
  (zat (.cons rfl (.cons rfl (.cons rfl (.cons rfl (.cons rfl (.cons rfl (.cons rfl .nil)))))))) ⟨0, _, _, _, rfl, Nat.zero_le _, hE, rfl, rfl⟩ ?_
 rintro mm S ⟨i, hp, nx, ck, rfl, hi, hf, hm, rfl⟩
 refine zce [(some (0, 0), [.int .i64 0, .int .i64 0, .nils])] [] [(2, .int .i64 n), (3, .vptr (cX (.nd op ix args))), (4, .vptr [.vs (cXs l)]), (6, .mptr 0 0 0), (24, .vs (cXs l)), (25, .int .i64 ((cXs l).length : Nat)), (26, .int .i64 (i : Nat))] rfl .nil (.cons hm (.cons (.same rfl) (.cons (.same rfl) (.cons (.same rfl) .nil))) .nil) (.cons rfl (.same rfl) (.cons rfl (.same rfl) (.cons rfl (.same rfl) (.cons rfl (.mptr rfl) (.cons rfl (.same rfl) (.cons rfl (.same rfl) (.cons rfl (.same rfl) .nil))))))) ?_
 unfold b25_0
 repeat (first | refine za6 ?_ | refine za0 rfl ?_)
 refine zaw rfl rfl rfl (fun h3 => ?_) fun h3 => ?_
 ·have hlt : i < l.length := by
   have h4 : ((i : Nat) : Int) < (((cXs l).length : Nat) : Int) := of_decide_eq_true h3
   omega
  have w1 : IntKind.wrap .i64 (((i : Nat) : Int) + 1) = ((i + 1 : Nat) : Int) := zbo i (by omega)
  have hge := zcg hlt
  rw [zn1 hlt] at hf
  have q32 := q32 l[i] (List.getElem_mem hlt)
  generalize zbq l[i] n = e at *
  generalize l[i] = y at *
  obtain ⟨yo, yi, ya⟩ := y
  repeat (first | refine za6 ?_ | refine za0 rfl ?_ | refine za3 ?_ | refine za2 ?_ | refine zal ?_ | refine zae ?_ | refine zbg rfl ?_ | refine za4 rfl ?_ | refine zaa rfl rfl rfl rfl ?_ | refine za8 rfl rfl rfl rfl rfl rfl rfl ?_ | refine zam ?_ | refine zb4 rfl rfl (by omega) (by assumption) rfl ?_)
  refine zar rfl rfl q32 (fun h => Bool.noConfusion (show false = true from h)) ?_
  repeat (first | refine za6 ?_ | refine za0 rfl ?_ | refine za3 ?_ | refine za2 ?_ | refine za4 rfl ?_)
  refine zaw rfl rfl rfl (fun h => ?_) fun h => ?_
  ·have h : e ≠ 0 := bne_iff_ne.1 h
   rw [if_neg h] at hf
   subst hf
   rw [if_pos h]
   repeat (first | refine za6 ?_ | refine za0 rfl ?_ | refine za3 ?_ | refine za2 ?_ | refine zbg rfl ?_ | refine zah ?_ | refine za5 ?_ | refine zad ?_ | refine za4 rfl ?_ | refine za8 rfl rfl rfl rfl rfl rfl rfl ?_ | refine zb0 rfl rfl ?_)
   exact zak ⟨.inr rfl, _, rfl, rfl⟩
  ·have h : e = 0 := by simpa using h
   rw [if_pos h] at hf
   repeat (first | refine za0 rfl ?_ | refine za3 ?_ | refine za2 ?_ | refine zbk ?_ | refine zae ?_ | refine zbl rfl ?_ | refine za4 rfl ?_ | refine zaz (op := .add) rfl rfl rfl ?_)
   rw [w1]
   exact zbz (show l.length - (i + 1) < l.length - i by omega) (zat (.cons rfl (.cons rfl (.cons rfl (.cons rfl (.cons rfl (.cons rfl (.cons rfl .nil)))))))) ⟨i + 1, _, _, _, rfl, hlt, hf, rfl, rfl⟩
 ·have hie : i = l.length := by
   have h4 : ¬ ((i : Nat) : Int) < (((cXs l).length : Nat) : Int) := of_decide_eq_false h3
   omega
  subst hie
  rw [List.drop_length] at hf
  have hE0 : E = 0 := hf.symm
  have q57 := p57 h0 hE0
  have q47 := p47 h0
  rw [if_neg (fun k => k hE0)]
  obtain ⟨ro, ri, ra⟩ := R
  repeat (first | refine za6 ?_ | refine za3 ?_ | refine za2 ?_ | refine zbl rfl ?_ | refine zb8 ?_ | refine zaf ?_)
  refine zdq ?_
  repeat (first | refine za6 ?_ | refine za0 rfl ?_ | refine za2 ?_ | refine zb7 ?_ | refine zaa rfl rfl rfl rfl ?_ | refine zbt rfl rfl ?_)
  refine zar rfl rfl q57 (fun h => Bool.noConfusion (show false = true from h)) ?_
  repeat (first | refine za6 ?_ | refine za0 rfl ?_ | refine za3 ?_ | refine za2 ?_ | refine zaa rfl rfl rfl rfl ?_ | refine za8 rfl rfl rfl rfl rfl rfl rfl ?_ | refine zam ?_)
  refine zar rfl rfl q47 (fun _ => by cases li <;> rfl) ?_
  cases li with
  | true =>
   rw [if_pos rfl]
   repeat (first | refine za6 ?_ | refine za0 rfl ?_ | refine za3 ?_ | refine za2 ?_ | refine zae ?_ | refine zbl rfl ?_ | refine zah ?_ | refine za4 rfl ?_ | refine zaa rfl rfl rfl rfl ?_ | refine za8 rfl rfl rfl rfl rfl rfl rfl ?_ | refine zd2 rfl rfl ?_ | refine zas rfl rfl ?_)
   exact zak ⟨.inr rfl, _, rfl, rfl⟩
  | false =>
   rw [if_neg Bool.false_ne_true]
   repeat (first | refine za6 ?_ | refine za0 rfl ?_ | refine za3 ?_ | refine za2 ?_ | refine zbg rfl ?_ | refine zah ?_ | refine za5 ?_ | refine za4 rfl ?_ | refine za8 rfl rfl rfl rfl rfl rfl rfl ?_ | refine zd2 rfl rfl ?_ | refine zb0 rfl rfl ?_ | refine zas rfl rfl ?_)
   exact zak ⟨.inr rfl, _, rfl, rfl⟩
def b26_0 : IC := .seq (.seq (.region [⟨(some 20), .mov (.t 9), none⟩,
  ⟨(some 21), .mov (.t 1), none⟩,
  ⟨(some 22), .len false (.t 21), none⟩,
  ⟨(some 23), .bin .lss (.t 20) (.t 22), none⟩] none)
 (.cond (.t 23) (.skip)
 (.exit 0)))
 (.seq (.block 1 (.seq (.region [⟨(some 26), .mov (.t 1), none⟩,
  ⟨(some 27), .mov (.t 9), none⟩,
  ⟨(some 28), .idxs 3 (.t 26) (.t 27), none⟩,
  ⟨(some 29), .load (some 3) (.t 28), none⟩,
  ⟨(some 30), .mov (.t 2), none⟩,
  ⟨(some 31), .call (.c (.fn 33 [] [])) [(.t 29), (.t 30)], none⟩,
  ⟨(some 10), .mov (.t 31), none⟩] none)
 (.seq (.region [⟨(some 32), .mov (.t 10), none⟩,
  ⟨(some 33), .bin .neq (.t 32) (.c (.int .i64 0)), none⟩] none)
 (.cond (.t 33) (.seq (.region [⟨(some 34), .build [.int .i64 0, .int .i64 0, .nils] [], none⟩,
  ⟨(some 35), .mov (.t 10), none⟩,
  ⟨none, .store 3 (.t 6) (.t 34), none⟩,
  ⟨(some 7), .mov (.t 35), none⟩] none)
 (.ret))
 (.skip)))))
 (.region [⟨(some 24), .mov (.t 9), none⟩,
  ⟨(some 25), .bin .add (.t 24) (.c (.int .i64 1)), none⟩,
  ⟨(some 9), .mov (.t 25), none⟩] none))
-- pneumatic/pneumaticref05.Substitute
def ic26 : IC := .seq (.region [⟨(some 3), .box (.t 0), none⟩,
  ⟨(some 6), .alloc [.int .i64 0, .int .i64 0, .nils], none⟩,
  ⟨(some 7), .mov (.c (.int .i64 0)), none⟩] none)
 (.seq (.seq (.region [⟨(some 12), .load (some 3) (.t 3), none⟩,
  ⟨(some 13), .mov (.t 1), none⟩,
  ⟨(some 14), .len false (.t 13), none⟩,
  ⟨(some 15), .call (.c (.fn 33 [] [])) [(.t 12), (.t 14)], none⟩,
  ⟨(some 8), .mov (.t 15), none⟩] none)
 (.seq (.region [⟨(some 16), .mov (.t 8), none⟩,
  ⟨(some 17), .bin .neq (.t 16) (.c (.int .i64 0)), none⟩] none)
 (.cond (.t 17) (.seq (.region [⟨(some 18), .build [.int .i64 0, .int .i64 0, .nils] [], none⟩,
  ⟨(some 19), .mov (.t 8), none⟩,
  ⟨none, .store 3 (.t 6) (.t 18), none⟩,
  ⟨(some 7), .mov (.t 19), none⟩] none)
 (.ret))
 (.skip))))
 (.seq (.seq (.region [⟨(some 9), .mov (.c (.int .i64 0)), none⟩] none)
 (.block 0 (.loop b26_0)))
 (.seq (.region [⟨(some 36), .load (some 3) (.t 3), none⟩,
  ⟨(some 37), .mov (.t 1), none⟩,
  ⟨(some 38), .call (.c (.fn 62 [] [])) [(.t 36), (.t 37)], none⟩,
  ⟨(some 11), .alloc [.int .i64 0, .int .i64 0, .nils], none⟩,
  ⟨none, .store 3 (.t 11) (.t 38), none⟩] none)
 (.seq (.seq (.region [⟨(some 39), .load (some 3) (.t 11), none⟩,
  ⟨(some 40), .call (.c (.fn 48 [] [])) [(.t 39)], none⟩,
  ⟨(some 41), .un .not (.t 40), none⟩] none)
 (.cond (.t 41) (.seq (.region [⟨(some 42), .build [.int .i64 0, .int .i64 0, .nils] [], none⟩,
  ⟨none, .store 3 (.t 6) (.t 42), none⟩,
  ⟨(some 7), .mov (.c (.int .i64 5)), none⟩] none)
 (.ret))
 (.skip)))
 (.seq (.region [⟨(some 43), .load (some 3) (.t 11), none⟩,
  ⟨none, .store 3 (.t 6) (.t 43), none⟩,
  ⟨(some 7), .mov (.c (.int .i64 0)), none⟩] none)
 (.ret))))))
theorem fn26 : env0.fn 26 = some ⟨44, ic26, [.cell 6 (some 3), .t 7]⟩ := by kernel_rfl
set_option maxHeartbeats 4000000 in
theorem znu (x : Ex) (hs : Slim x) (l : List Ex) (hl : l.length ≤ 8) (hls : ∀ y ∈ l, Slim y) (n : Int) : PF Try.prog 26 [.agg (cX x), .vs (cXs l), .int .i64 n] (subV x l n) := by
 have hcl := zan l
 have p33 := zl8 x hs (l.length : Nat)
 have q33 : ∀ y ∈ l, PF Try.prog 33 [.agg (cX y), .int .i64 n] (.int .i64 (zbq y n)) := fun y hy => zl8 y (hls y hy) n
 have p62 : zbq x (l.length : Nat) = 0 → zoj n l = 0 → PF Try.prog 62 [.agg (cX x), .vs (cXs l)] (.agg (cX (zeo l x))) := fun h k => put62 (fun y hy => ziv (zli k y hy)) _ x (Nat.le_refl _) (zfl h) (ziv h)
 have p48 : zbq x (l.length : Nat) = 0 → PF Try.prog 48 [.agg (cX (zeo l x))] (.bool (zcj (zeo l x))) := fun h => zly _ (zqz hls _ x (Nat.le_refl _) (zfl h) hs)
 unfold subV
 generalize hc : zbq x (l.length : Nat) = c at *
 generalize hE : zoj n l = E at *
 generalize zeo l x = R at *
 generalize zcj R = li at *
 obtain ⟨op, ix, args⟩ := x
 refine zb3 env0_ok fn26 [(0, .agg (cX (.nd op ix args))), (1, .vs (cXs l)), (2, .int .i64 n)] (by show 3 ≤ 44; decide) rfl fun w0 N0 => ?_
 unfold ic26
 refine za6 (za0 rfl (zbd rfl rfl (zam (za4 rfl (za3 (za2 ?_))))))
 refine zce [(some (1, 1), [.int .i64 0, .int .i64 0, .nils])] [(0, 0, cX (.nd op ix args))] [(1, .vs (cXs l)), (2, .int .i64 n), (3, .vptr (cX (.nd op ix args))), (6, .mptr 0 0 0)] rfl (.cons rfl rfl .nil) (.cons rfl (.cons (.same rfl) (.cons (.same rfl) (.cons (.same rfl) .nil))) .nil) (.cons rfl (.same rfl) (.cons rfl (.same rfl) (.cons rfl (.fptr rfl rfl) (.cons rfl (.mptr rfl) .nil)))) ?_
 repeat (first | refine za6 ?_ | refine za0 rfl ?_ | refine za4 rfl ?_ | refine zaa rfl rfl rfl rfl ?_ | refine zbf rfl rfl ?_)
 refine zar rfl (by rw [hcl]; rfl) p33 (fun h => Bool.noConfusion (show false = true from h)) ?_
 repeat (first | refine za6 ?_ | refine za0 rfl ?_ | refine za3 ?_ | refine za2 ?_ | refine za4 rfl ?_)
 refine zaw rfl rfl rfl (fun h => ?_) fun h => ?_
 ·rw [if_pos (bne_iff_ne.1 h)]
  repeat (first | refine za6 ?_ | refine za0 rfl ?_ | refine za3 ?_ | refine za2 ?_ | refine zbg rfl ?_ | refine zah ?_ | refine za5 ?_ | refine za4 rfl ?_ | refine za8 rfl rfl rfl rfl rfl rfl rfl ?_ | refine zb0 rfl rfl ?_)
  exact zak ⟨.inr rfl, _, rfl, rfl⟩
 have h0 : c = 0 := by simpa using h
 rw [if_neg (fun k => k h0)]
 repeat (first | refine za6 ?_ | refine za0 rfl ?_ | refine za3 ?_ | refine za2 ?_ | refine zal ?_ | refine zae ?_ | refine zbl rfl ?_ | refine za4 rfl ?_)
 refine zd9 (fun mm S => ∃ i, mm = l.length - i ∧ i ≤ l.length ∧ zoj n (l.drop i) = E ∧ S = st 44 [(1, .vs (cXs l)), (2, .int .i64 n), (3, .vptr (cX (.nd op ix args))), (6, .mptr 0 0 0), (9, .int .i64 (i : Nat))] [(0, 0, .cells [.int .i64 0, .int .i64 0, .nils])] 1 1) l.length
  (zat (.cons rfl (.cons rfl (.cons rfl (.cons rfl (.cons rfl .nil)))))) ⟨0, rfl, Nat.zero_le _, hE, rfl⟩ ?_
 rintro mm S ⟨i, rfl, hi, hf, rfl⟩
 unfold b26_0
 repeat (first | refine za6 ?_ | refine za0 rfl ?_ | refine za4 rfl ?_ | refine zbf rfl rfl ?_)
 refine zaw rfl rfl rfl (fun h3 => ?_) fun h3 => ?_
 ·have hlt : i < l.length := by
   have h4 : ((i : Nat) : Int) < (((cXs l).length : Nat) : Int) := of_decide_eq_true h3
   omega
  have w1 : IntKind.wrap .i64 (((i : Nat) : Int) + 1) = ((i + 1 : Nat) : Int) := zbo i (by omega)
  have hge := zcg hlt
  rw [zn1 hlt] at hf
  have q33 := q33 l[i] (List.getElem_mem hlt)
  generalize zbq l[i] n = e at *
  generalize l[i] = y at *
  obtain ⟨yo, yi, ya⟩ := y
  repeat (first | refine za6 ?_ | refine za0 rfl ?_ | refine za3 ?_ | refine za2 ?_ | refine zal ?_ | refine zae ?_ | refine zbg rfl ?_ | refine za4 rfl ?_ | refine zaa rfl rfl rfl rfl ?_ | refine zb4 rfl rfl (by omega) (by assumption) rfl ?_)
  refine zar rfl rfl q33 (fun h => Bool.noConfusion (show false = true from h)) ?_
  repeat (first | refine za6 ?_ | refine za0 rfl ?_ | refine za3 ?_ | refine za2 ?_ | refine za4 rfl ?_)
  refine zaw rfl rfl rfl (fun h => ?_) fun h => ?_
  ·have h : e ≠ 0 := bne_iff_ne.1 h
   rw [if_neg h] at hf
   subst hf
   rw [if_pos h]
   repeat (first | refine za6 ?_ | refine za0 rfl ?_ | refine za3 ?_ | refine za2 ?_ | refine zbg rfl ?_ | refine zah ?_ | refine za5 ?_ | refine zad ?_ | refine za4 rfl ?_ | refine za8 rfl rfl rfl rfl rfl rfl rfl ?_ | refine zb0 rfl rfl ?_)
   exact zak ⟨.inr rfl, _, rfl, rfl⟩
  ·have h : e = 0 := by simpa using h
   rw [if_pos h] at hf
   repeat (first | refine za0 rfl ?_ | refine za3 ?_ | refine za2 ?_ | refine zbk ?_ | refine zae ?_ | refine zbl rfl ?_ | refine za4 rfl ?_ | refine zaz (op := .add) rfl rfl rfl ?_)
   rw [w1]
   exact zbz (show l.length - (i + 1) < l.length - i by omega) (zat (.cons rfl (.cons rfl (.cons rfl (.cons rfl (.cons rfl .nil)))))) ⟨i + 1, rfl, hlt, hf, rfl⟩
 ·have hie : i = l.length := by
   have h4 : ¬ ((i : Nat) : Int) < (((cXs l).length : Nat) : Int) := of_decide_eq_false h3
   omega
  subst hie
  rw [List.drop_length] at hf
  have hE0 : E = 0 := hf.symm
  have q62 := p62 h0 hE0
  have q48 := p48 h0
  rw [if_neg (fun k => k hE0)]
  obtain ⟨ro, ri, ra⟩ := R
  repeat (first | refine za3 ?_ | refine za2 ?_ | refine zbl rfl ?_ | refine zb8 ?_ | refine zaf ?_)
  refine zdq ?_
  repeat (first | refine za6 ?_ | refine za0 rfl ?_ | refine za2 ?_ | refine zb7 ?_ | refine za4 rfl ?_ | refine zaa rfl rfl rfl rfl ?_)
  refine zar rfl rfl q62 (fun h => Bool.noConfusion (show false = true from h)) ?_
  repeat (first | refine za6 ?_ | refine za0 rfl ?_ | refine za3 ?_ | refine za2 ?_ | refine zaa rfl rfl rfl rfl ?_ | refine za8 rfl rfl rfl rfl rfl rfl rfl ?_ | refine zam ?_)
  refine zar rfl rfl q48 (fun _ => rfl) ?_
  cases li with
  | true =>
   rw [if_pos rfl]
   repeat (first | refine za6 ?_ | refine za0 rfl ?_ | refine za3 ?_ | refine za2 ?_ | refine zae ?_ | refine zbl rfl ?_ | refine zah ?_ | refine za4 rfl ?_ | refine zaa rfl rfl rfl rfl ?_ | refine za8 rfl rfl rfl rfl rfl rfl rfl ?_ | refine zd2 rfl rfl ?_)
   exact zak ⟨.inr rfl, _, rfl, rfl⟩
  | false =>
   rw [if_neg Bool.false_ne_true]
   repeat (first | refine za6 ?_ | refine za0 rfl ?_ | refine za3 ?_ | refine za2 ?_ | refine zbg rfl ?_ | refine zah ?_ | refine za5 ?_ | refine za4 rfl ?_ | refine za8 rfl rfl rfl rfl rfl rfl rfl ?_ | refine zd2 rfl rfl ?_ | refine zb0 rfl rfl ?_)
   exact zak ⟨.inr rfl, _, rfl, rfl⟩
end Go.Proofs.Ytmnkjofaodbokaa
namespace Go.Proofs.Ytmnkjofaodbokaa
open Go Go.Am
theorem zgx : zcj (.nd 0 0 []) = true := by decide
theorem zvs (x : Ex) (n : Int) : ∃ y e, zs1 x n = .tup [.agg (cX y), .int .i64 e] ∧ zcj y = true ∧ Slim y := by
 unfold zs1
 by_cases h : zbq x n = 0
 ·rw [if_pos h]
  have hl := zrm (zfl h) (zms h)
  exact ⟨_, _, rfl, hl, zet ((zcy _).1 hl).1⟩
 ·rw [if_neg h]
  exact ⟨_, _, rfl, zgx, zet (by decide)⟩
theorem subV_tup (x : Ex) (l : List Ex) (n : Int) : ∃ y e, subV x l n = .tup [.agg (cX y), .int .i64 e] ∧ zcj y = true ∧ Slim y := by
 unfold subV
 split
 ·exact ⟨_, _, rfl, zgx, zet (by decide)⟩
 ·split
  ·exact ⟨_, _, rfl, zgx, zet (by decide)⟩
  ·split
   ·rename_i hl
    exact ⟨_, _, rfl, hl, zet ((zcy _).1 hl).1⟩
   ·exact ⟨_, _, rfl, zgx, zet (by decide)⟩
theorem znp {y : Ex} (h : zcj y = true) : sameX y y = true := by
 unfold sameX
 rw [h, (zg7 y y).2 rfl]; rfl
theorem few17w (l : List Ex) (hl : l.length < 9223372036854775808) (hs : ∀ x ∈ l, Slim x) : PF Try.prog 17 [.vs (cXs l)] (.bool (l.all zhy)) := by
 have p50 := zix 51 [] rfl rfl (fun _ => rfl) (fun _ => rfl) (fun x => !zhy x) l hl fun x hx => few51 x (hs x hx)
 have e : l.all zhy = !(l.any fun x => !zhy x) := by
  rw [List.not_any_eq_all_not]
  simp only [Bool.not_not]
 rw [e]
 generalize (l.any fun x => !zhy x) = z at *
 refine zb3 env0_ok fn17 [(0, .vs (cXs l))] (by show 1 ≤ 6; decide) rfl fun w0 N0 => ?_
 unfold ic17
 repeat (first | refine za6 ?_ | refine za0 rfl ?_ | refine za3 ?_ | refine za2 ?_ | refine za4 rfl ?_)
 refine zar rfl rfl p50 (fun h => Bool.noConfusion (show false = true from h)) ?_
 repeat (first | refine za3 ?_ | refine za2 ?_ | refine zah ?_ | refine za4 rfl ?_ | refine zd2 rfl rfl ?_)
 exact zak ⟨.inr rfl, _, rfl, rfl⟩
-- pneumatic/pneumaticlaw05.BoolexpForms
def ic5 : IC := .seq (.region [⟨(some 3), .box (.t 0), none⟩,
  ⟨(some 6), .mov (.c (.bool false)), none⟩] none)
 (.seq (.seq (.region [⟨(some 15), .load (some 3) (.t 3), none⟩,
  ⟨(some 16), .bslice 3 1 [.int .i64 0, .int .i64 0, .nils] [(0, 3, (.t 15))], none⟩,
  ⟨(some 17), .call (.c (.fn 17 [] [])) [(.t 16)], none⟩,
  ⟨(some 18), .un .not (.t 17), none⟩,
  ⟨(some 19), .mov (.t 18), none⟩,
  ⟨(some 20), .mov (.t 1), some (19, false)⟩,
  ⟨(some 21), .call (.c (.fn 17 [] [])) [(.t 20)], some (19, false)⟩,
  ⟨(some 22), .un .not (.t 21), some (19, false)⟩,
  ⟨(some 23), .pick (.t 19) (.c (.bool true)) (.t 22), none⟩,
  ⟨(some 24), .mov (.t 23), none⟩,
  ⟨(some 25), .mov (.t 1), some (24, false)⟩,
  ⟨(some 26), .len false (.t 25), some (24, false)⟩,
  ⟨(some 27), .bin .gtr (.t 26) (.c (.int .i64 8)), some (24, false)⟩,
  ⟨(some 28), .pick (.t 24) (.c (.bool true)) (.t 27), none⟩] none)
 (.cond (.t 28) (.seq (.region [⟨(some 29), .call (.c (.fn 13 [] [])) [], none⟩,
  ⟨(some 6), .mov (.t 29), none⟩] none)
 (.ret))
 (.skip)))
 (.seq (.region [⟨(some 31), .load (some 3) (.t 3), none⟩,
  ⟨(some 32), .mov (.t 2), none⟩,
  ⟨(some 33), .call (.c (.fn 23 [] [])) [(.t 31), (.t 32)], none⟩,
  ⟨(some 30), .mov (.t 33), none⟩,
  ⟨(some 34), .extract (.t 30) 0, none⟩,
  ⟨(some 35), .extract (.t 30) 1, none⟩,
  ⟨(some 7), .alloc [.int .i64 0, .int .i64 0, .nils], none⟩,
  ⟨none, .store 3 (.t 7) (.t 34), none⟩,
  ⟨(some 8), .mov (.t 35), none⟩] none)
 (.seq (.region [⟨(some 37), .load (some 3) (.t 3), none⟩,
  ⟨(some 38), .mov (.t 2), none⟩,
  ⟨(some 39), .call (.c (.fn 24 [] [])) [(.t 37), (.t 38)], none⟩,
  ⟨(some 36), .mov (.t 39), none⟩,
  ⟨(some 40), .extract (.t 36) 0, none⟩,
  ⟨(some 41), .extract (.t 36) 1, none⟩,
  ⟨(some 9), .alloc [.int .i64 0, .int .i64 0, .nils], none⟩,
  ⟨none, .store 3 (.t 9) (.t 40), none⟩,
  ⟨(some 10), .mov (.t 41), none⟩] none)
 (.seq (.region [⟨(some 43), .load (some 3) (.t 3), none⟩,
  ⟨(some 44), .mov (.t 1), none⟩,
  ⟨(some 45), .mov (.t 2), none⟩,
  ⟨(some 46), .call (.c (.fn 25 [] [])) [(.t 43), (.t 44), (.t 45)], none⟩,
  ⟨(some 42), .mov (.t 46), none⟩,
  ⟨(some 47), .extract (.t 42) 0, none⟩,
  ⟨(some 48), .extract (.t 42) 1, none⟩,
  ⟨(some 11), .alloc [.int .i64 0, .int .i64 0, .nils], none⟩,
  ⟨none, .store 3 (.t 11) (.t 47), none⟩,
  ⟨(some 12), .mov (.t 48), none⟩] none)
 (.seq (.region [⟨(some 50), .load (some 3) (.t 3), none⟩,
  ⟨(some 51), .mov (.t 1), none⟩,
  ⟨(some 52), .mov (.t 2), none⟩,
  ⟨(some 53), .call (.c (.fn 26 [] [])) [(.t 50), (.t 51), (.t 52)], none⟩,
  ⟨(some 49), .mov (.t 53), none⟩,
  ⟨(some 54), .extract (.t 49) 0, none⟩,
  ⟨(some 55), .extract (.t 49) 1, none⟩,
  ⟨(some 13), .alloc [.int .i64 0, .int .i64 0, .nils], none⟩,
  ⟨none, .store 3 (.t 13) (.t 54), none⟩,
  ⟨(some 14), .mov (.t 55), none⟩] none)
 (.seq (.region [⟨(some 56), .call (.c (.fn 13 [] [])) [], none⟩,
  ⟨(some 57), .mov (.t 56), none⟩,
  ⟨(some 58), .load (some 3) (.t 7), some (57, true)⟩,
  ⟨(some 59), .load (some 3) (.t 9), some (57, true)⟩,
  ⟨(some 60), .call (.c (.fn 16 [] [])) [(.t 58), (.t 59)], some (57, true)⟩,
  ⟨(some 61), .pick (.t 57) (.t 60) (.c (.bool false)), none⟩,
  ⟨(some 62), .mov (.t 61), none⟩,
  ⟨(some 63), .mov (.t 8), some (62, true)⟩,
  ⟨(some 64), .mov (.t 10), some (62, true)⟩,
  ⟨(some 65), .bin .eql (.t 63) (.t 64), some (62, true)⟩,
  ⟨(some 66), .pick (.t 62) (.t 65) (.c (.bool false)), none⟩,
  ⟨(some 67), .mov (.t 66), none⟩,
  ⟨(some 68), .load (some 3) (.t 11), some (67, true)⟩,
  ⟨(some 69), .load (some 3) (.t 13), some (67, true)⟩,
  ⟨(some 70), .call (.c (.fn 16 [] [])) [(.t 68), (.t 69)], some (67, true)⟩,
  ⟨(some 71), .pick (.t 67) (.t 70) (.c (.bool false)), none⟩,
  ⟨(some 72), .mov (.t 71), none⟩,
  ⟨(some 73), .mov (.t 12), some (72, true)⟩,
  ⟨(some 74), .mov (.t 14), some (72, true)⟩,
  ⟨(some 75), .bin .eql (.t 73) (.t 74), some (72, true)⟩,
  ⟨(some 76), .pick (.t 72) (.t 75) (.c (.bool false)), none⟩,
  ⟨(some 6), .mov (.t 76), none⟩] none)
 (.ret)))))))
theorem fn5 : env0.fn 5 = some ⟨77, ic5, [.t 6]⟩ := by kernel_rfl
set_option maxRecDepth 100000 in
set_option maxHeartbeats 8000000 in
theorem law5 (x : Ex) (hs : Slim x) (l : List Ex) (hlen : l.length < 9223372036854775808) (hls : ∀ y ∈ l, Slim y) (n : Int) : PF Try.prog 5 [.agg (cX x), .vs (cXs l), .int .i64 n] (.bool true) := by
 have p17 := few17 [x] (by show 1 < 9223372036854775807; decide) (fun z hz => by
  obtain rfl := List.mem_singleton.1 hz
  exact hs)
 have q17 := few17w l hlen hls
 have p23 := zs2 x hs n
 have p24 := zs3 x hs n
 have p25 : l.length ≤ 8 → _ := fun h => zhx x hs l h hls n
 have p26 : l.length ≤ 8 → _ := fun h => znu x hs l h hls n
 obtain ⟨y, e1, h1, hy1, hy2⟩ := zvs x n
 obtain ⟨z, e2, h2, hz1, hz2⟩ := subV_tup x l n
 have py := same16 y y hy2 hy2
 have pz := same16 z z hz2 hz2
 rw [znp hy1] at py
 rw [znp hz1] at pz
 rw [h1] at p23 p24
 rw [h2] at p25 p26
 generalize [x].all zhy = f1 at *
 generalize l.all zhy = f2 at *
 clear h1 h2
 have hcl := zan l
 obtain ⟨op, ix, args⟩ := x
 obtain ⟨yo, yi, ya⟩ := y
 obtain ⟨zo, zi, za⟩ := z
 refine zb3 env0_ok fn5 [(0, .agg (cX (.nd op ix args))), (1, .vs (cXs l)), (2, .int .i64 n)] (by show 3 ≤ 77; decide) rfl fun w0 N0 => ?_
 unfold ic5
 refine za6 (za0 rfl (zbd rfl rfl (za4 rfl (za3 (za2 ?_)))))
 refine zce [] [(0, 0, cX (.nd op ix args))] [(1, .vs (cXs l)), (2, .int .i64 n), (3, .vptr (cX (.nd op ix args)))] rfl (.cons rfl rfl .nil) .nil (.cons rfl (.same rfl) (.cons rfl (.same rfl) (.cons rfl (.fptr rfl rfl) .nil))) ?_
 repeat (first | refine za6 ?_ | refine za0 rfl ?_ | refine zaa rfl rfl rfl rfl ?_ | refine zav rfl rfl ?_)
 refine zar rfl rfl p17 (fun _ => rfl) ?_
 cases f1 with
 | false =>
  repeat (first | refine za6 ?_ | refine za0 rfl ?_ | refine za3 ?_ | refine za2 ?_ | refine zbg rfl ?_ | refine zcv rfl rfl ?_ | refine za4 rfl ?_ | refine zaj rfl rfl ?_ | refine zd2 rfl rfl ?_)
  refine zar rfl rfl ze6 (fun _ => rfl) ?_
  repeat (first | refine za3 ?_ | refine za2 ?_ | refine zah ?_ | refine za5 ?_ | refine za4 rfl ?_)
  exact zak ⟨.inr rfl, _, rfl, rfl⟩
 | true =>
  repeat (first | refine zc2 rfl ?_ | refine za4 rfl ?_ | refine zd2 rfl rfl ?_)
  refine zar rfl rfl q17 (fun _ => rfl) ?_
  cases f2 with
  | false =>
   repeat (first | refine za6 ?_ | refine za0 rfl ?_ | refine za3 ?_ | refine za2 ?_ | refine zbg rfl ?_ | refine zc2 rfl ?_ | refine zcv rfl rfl ?_ | refine za4 rfl ?_ | refine zaj rfl rfl ?_ | refine zac rfl rfl ?_ | refine zd2 rfl rfl ?_)
   refine zar rfl rfl ze6 (fun _ => rfl) ?_
   repeat (first | refine za3 ?_ | refine za2 ?_ | refine zah ?_ | refine za5 ?_ | refine za4 rfl ?_)
   exact zak ⟨.inr rfl, _, rfl, rfl⟩
  | true =>
   repeat (first | refine zc2 rfl ?_ | refine za4 rfl ?_ | refine zac rfl rfl ?_ | refine zd2 rfl rfl ?_ | refine zbf rfl rfl ?_)
   refine zaw rfl rfl rfl (fun h => ?_) fun h => ?_
   ·repeat (first | refine za6 ?_ | refine za0 rfl ?_ | refine za3 ?_ | refine za2 ?_ | refine zbg rfl ?_ | refine zac rfl rfl ?_)
    refine zar rfl rfl ze6 (fun _ => rfl) ?_
    repeat (first | refine za3 ?_ | refine za2 ?_ | refine zah ?_ | refine za5 ?_ | refine za4 rfl ?_)
    exact zak ⟨.inr rfl, _, rfl, rfl⟩
   have h8 : l.length ≤ 8 := by
    have h : ¬ (((cXs l).length : Nat) : Int) > 8 := of_decide_eq_false h
    omega
   have p25 := p25 h8
   have p26 := p26 h8
   repeat (first | refine za6 ?_ | refine za0 rfl ?_ | refine za3 ?_ | refine za2 ?_ | refine zae ?_ | refine zbl rfl ?_ | refine za4 rfl ?_ | refine zaa rfl rfl rfl rfl ?_ | refine zac rfl rfl ?_)
   refine zar rfl rfl p23 (fun h => Bool.noConfusion (show false = true from h)) ?_
   repeat (first | refine za6 ?_ | refine za0 rfl ?_ | refine za3 ?_ | refine za2 ?_ | refine za4 rfl ?_ | refine zaa rfl rfl rfl rfl ?_ | refine za8 rfl rfl rfl rfl rfl rfl rfl ?_ | refine zam ?_ | refine zas rfl rfl ?_)
   refine zar rfl rfl p24 (fun h => Bool.noConfusion (show false = true from h)) ?_
   repeat (first | refine za6 ?_ | refine za0 rfl ?_ | refine za3 ?_ | refine za2 ?_ | refine za4 rfl ?_ | refine zaa rfl rfl rfl rfl ?_ | refine za8 rfl rfl rfl rfl rfl rfl rfl ?_ | refine zam ?_ | refine zas rfl rfl ?_)
   refine zar rfl rfl p25 (fun h => Bool.noConfusion (show false = true from h)) ?_
   repeat (first | refine za6 ?_ | refine za0 rfl ?_ | refine za3 ?_ | refine za2 ?_ | refine za4 rfl ?_ | refine zaa rfl rfl rfl rfl ?_ | refine za8 rfl rfl rfl rfl rfl rfl rfl ?_ | refine zam ?_ | refine zas rfl rfl ?_)
   refine zar rfl rfl p26 (fun h => Bool.noConfusion (show false = true from h)) ?_
   repeat (first | refine za6 ?_ | refine za0 rfl ?_ | refine za3 ?_ | refine za2 ?_ | refine za4 rfl ?_ | refine za8 rfl rfl rfl rfl rfl rfl rfl ?_ | refine zam ?_ | refine zas rfl rfl ?_)
   refine zar rfl rfl ze6 (fun _ => rfl) ?_
   repeat (first | refine zc2 rfl ?_ | refine za4 rfl ?_ | refine zaa rfl rfl rfl rfl ?_)
   refine zar rfl rfl py (fun h => Bool.noConfusion (show false = true from h)) ?_
   repeat (first | refine zc2 rfl ?_ | refine za4 rfl ?_ | refine zaj rfl rfl ?_)
   refine zbe rfl rfl (by show some (AV.bool (e1 == e1)) = _; rw [beq_self_eq_true]) ?_
   repeat (first | refine zc2 rfl ?_ | refine za4 rfl ?_ | refine zaa rfl rfl rfl rfl ?_ | refine zaj rfl rfl ?_)
   refine zar rfl rfl pz (fun h => Bool.noConfusion (show false = true from h)) ?_
   repeat (first | refine zc2 rfl ?_ | refine za4 rfl ?_ | refine zaj rfl rfl ?_)
   refine zbe rfl rfl (by show some (AV.bool (e2 == e2)) = _; rw [beq_self_eq_true]) ?_
   repeat (first | refine za3 ?_ | refine za2 ?_ | refine zah ?_ | refine za4 rfl ?_ | refine zaj rfl rfl ?_)
   exact zak ⟨.inr rfl, _, rfl, rfl⟩
end Go.Proofs.Ytmnkjofaodbokaa
namespace Go.Proofs.Ytmnkjofaodbokaa
open Go Go.Am Go.ChangeShapes Go.WideShapes Go.ChangeAt Go.RowKit
theorem own : ownKnob Try.prog.godebug = none := by kernel_rfl
theorem gok {W : World} : GOk (fun _ => True) W := fun _ hx => absurd hx List.not_mem_nil
theorem solid : zsi Try.prog Try.prog.types.size := solid_of (by kernel_rfl)
end Go.Proofs.Ytmnkjofaodbokaa
namespace Go.Proofs.Ytmnkjofaodbokaa
open Go Go.Am Go.ChangeShapes Go.WideShapes Go.ChangeAt Go.RowKit Go.Deep
section
variable {H : Type} {enc : TypeId × Value → H} {w : World} {base : Nat} {spare : Nat → Bool} {held : Bool}
theorem rdN : Rd enc Try.prog w base spare held 3 (cInt .i64) := zvd Try.underlying3 (by kernel_rfl)
theorem rdT : Rd enc Try.prog w base spare held 24 fun d => cX (exD d) :=
 rd_tree Try.underlying24 rfl Try.underlying3 (by kernel_rfl) Try.underlying22 (by kernel_rfl) (by rw [show Try.prog.cellsOf 24 = 3 from by kernel_rfl]; decide) (by kernel_rfl)
theorem slimX {n : Nat} {cs : List Value} {d : DataW H} {p : List MemPlace} (h : DataW.trod enc Try.prog w base spare held n 24 cs = some (d, p)) : Slim (exD d) :=
 zns Try.underlying24 rfl Try.underlying22 _ d (Nat.le_refl _) _ _ _ h
theorem rdB : Rd enc Try.prog w base spare held 37 (zg3 cBool) :=
 zqp Try.underlying37 (by kernel_rfl) (by rw [show Try.prog.cellsOf 4 = 1 from by kernel_rfl]; decide) (rd_bool Try.underlying4 (by kernel_rfl))
end
end Go.Proofs.Ytmnkjofaodbokaa
namespace Go.Proofs.Ytmnkjofaodbokaa
open Go Go.Am Go.ChangeShapes Go.WideShapes Go.ChangeAt Go.RowKit Go.Deep
section
variable {H : Type} {enc : TypeId × Value → H} {w : World} {base : Nat} {spare : Nat → Bool} {held : Bool}
theorem rdE : Rd enc Try.prog w base spare held 22 (zg3 fun d => cX (exD d)) :=
 zqp Try.underlying22 (by kernel_rfl) (by rw [show Try.prog.cellsOf 24 = 3 from by kernel_rfl]; decide) rdT
theorem slimE {n : Nat} {cs : List Value} {d : DataW H} {p : List MemPlace} (h : DataW.trod enc Try.prog w base spare held n 22 cs = some (d, p)) :
  (ze7 d).length < 9223372036854775808 ∧ ∀ x ∈ ze7 d, Slim (exD x) := by
 rcases Deep.open_slice Try.underlying22 h with ⟨_, hx⟩ | ⟨a, len, cap, m, n2, D, Pl, _, hb, hle, hm, hmm, hx, hel⟩
 ·injection hx with hx _
  subst hx
  exact ⟨by show 0 < _; decide, fun y hy => absurd hy List.not_mem_nil⟩
 ·injection hx with hx _
  subst hx
  have hlm : len ≤ m := by rw [hmm]; split <;> omega
  refine ⟨?_, fun x hx => ?_⟩
  ·show ((List.range len).map D).length < _
   rw [List.length_map, List.length_range]
   have : maxLen = 9223372036854775807 := rfl
   omega
  ·have hx' : x ∈ (List.range len).map D := hx
   obtain ⟨i, hi, rfl⟩ := List.mem_map.1 hx'
   obtain ⟨cs', h1, h3⟩ := hel i (by have := List.mem_range.1 hi; omega)
   exact zns Try.underlying24 rfl Try.underlying22 _ (D i) (Nat.le_refl _) _ _ _ h3
end
end Go.Proofs.Ytmnkjofaodbokaa
namespace Go.Proofs.Ytmnkjofaodbokaa
open Go Go.Am
section
variable {P : Program} {w0 : World} {N0 : Nat} {k : List Fr} {Q : Exit → AS → Prop} {pf : Kn} {ios : List Opr} {n nx ck : Nat} {mk : List (Nat × Nat)} {md : Md} {l : List (Nat × AV)} {hp : List (Nat × Nat × AObj)}
end
theorem zsa {S : AS} {d id sp len : Nat} {cap : Option Nat} (l : List Bool) (hn : l.length = len) (hl : Am.look id S.heap = some (sp, .cells (l.map AV.bool))) : S.view (d + 2) (.ms id sp 1 0 len cap) = vsB l := by
 subst hn
 have hf : l.map AV.bool = (l.map fun b => ([.bool b] : List AV)).flatten := by
  clear hl
  induction l with
  | nil => rfl
  | cons b l ih => simp [ih]
 have e : S.elems 1 (.ms id sp 1 0 l.length cap) = some (l.map fun b => ([.bool b] : List AV)) := by
  obtain ⟨n, t, hp, nx, ck, mk⟩ := S
  exact zgq (ys := []) (cap := cap) (n := n) (nx := nx) (ck := ck) (mk := mk) (l := []) (hp := hp) (by rw [List.append_nil, ← hf]; exact hl) (List.length_map ..) (fun x hx => by obtain ⟨s, _, rfl⟩ := List.mem_map.1 hx; rfl)
 simp only [AS.view, e]
 unfold vsB
 congr 1
 rw [List.map_map]
 exact List.map_congr_left fun _ _ => rfl
end Go.Proofs.Ytmnkjofaodbokaa
