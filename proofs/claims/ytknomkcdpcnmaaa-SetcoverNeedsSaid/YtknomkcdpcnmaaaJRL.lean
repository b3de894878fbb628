/-
  LISTS OF SETS: slices.Clone, Delete.
-/
import Derived.Test.YtknomkcdpcnmaaaJV3
import Derived.Test.YtknomkcdpcnmaaaJU2
namespace Go.Proofs.Ytknomkcdpcnmaaa
open Go Go.Am
theorem zj0 (l : List (BitVec 64)) : l.map cU = (cUs l).flatten := by
 unfold cUs
 induction l with
 | nil => rfl
 | cons z l ih => simpa using ih
theorem zl8 : ∀ l : List (BitVec 64), (l.map cU).all AV.isCell = true
 | [] => rfl
 | z :: l => by
  rw [List.map_cons, List.all_cons, zl8 l]
  rfl
theorem zi2 {l : List (BitVec 64)} : ∀ x ∈ cUs l, x.length = 1 := fun x hx => by
 obtain ⟨s, _, rfl⟩ := List.mem_map.1 hx
 rfl
theorem zn7 : ∀ l : List (BitVec 64), hasM.hasML (l.map cU) = false
 | [] => rfl
 | _ :: l => zn7 l
theorem zpu (k : Nat) (l : List (BitVec 64)) : cUs (l.drop k) = (cUs l).drop k := by unfold cUs; rw [List.map_drop]
theorem ztl (l : List (BitVec 64)) (a : Nat) : (cUs l).eraseIdx a = cUs (l.eraseIdx a) := by
 unfold cUs
 rw [List.eraseIdx_eq_take_drop_succ, List.eraseIdx_eq_take_drop_succ, List.map_append, List.map_take, List.map_drop]
theorem zkv : ∀ k : Nat, hasM.hasML (zf9 k [.int .u64 0]) = false
 | 0 => rfl
 | k + 1 => by
  have := zkv k
  rw [zj8] at *
  intro x hx
  rcases List.mem_append.1 (show x ∈ [.int .u64 0] ++ zf9 k [.int .u64 0] from hx) with hx | hx
  ·obtain rfl := List.mem_singleton.1 hx
   rfl
  ·exact this x hx
-- slices.Clone[[]uint64,uint64]
def ic27 : IC := .seq (.region [⟨(some 2), .mov (.c (.nils)), none⟩] none)
 (.seq (.seq (.region [⟨(some 3), .mov (.t 0), none⟩,
  ⟨(some 4), .nilq false (.t 3), none⟩] none)
 (.cond (.t 4) (.seq (.region [⟨(some 2), .mov (.c (.nils)), none⟩] none)
 (.ret))
 (.skip)))
 (.seq (.region [⟨(some 5), .bslice 1 0 [] [], none⟩,
  ⟨(some 6), .mov (.t 0), none⟩,
  ⟨(some 7), .append 1 8 [.int .u64 0] (.t 5) (.t 6), none⟩,
  ⟨(some 2), .mov (.t 7), none⟩] none)
 (.ret)))
theorem fn27 : env0.fn 27 = some ⟨8, ic27, [.t 2]⟩ := by kernel_rfl
-- slices.Delete[[]uint64,uint64]
def ic39 : IC := .seq (.region [⟨(some 6), .mov (.c (.nils)), none⟩] none)
 (.seq (.region [⟨(some 8), .mov (.t 0), none⟩,
  ⟨(some 9), .mov (.t 1), none⟩,
  ⟨(some 10), .mov (.t 2), none⟩,
  ⟨(some 11), .mov (.t 0), none⟩,
  ⟨(some 12), .len false (.t 11), none⟩,
  ⟨(some 13), .slsl 1 (.t 8) (some (.t 9)) (some (.t 10)) (some (.t 12)), none⟩] none)
 (.seq (.seq (.region [⟨(some 14), .mov (.t 1), none⟩,
  ⟨(some 15), .mov (.t 2), none⟩,
  ⟨(some 16), .bin .eql (.t 14) (.t 15), none⟩] none)
 (.cond (.t 16) (.seq (.region [⟨(some 17), .mov (.t 0), none⟩,
  ⟨(some 6), .mov (.t 17), none⟩] none)
 (.ret))
 (.skip)))
 (.seq (.region [⟨(some 18), .mov (.t 0), none⟩,
  ⟨(some 19), .len false (.t 18), none⟩,
  ⟨(some 7), .mov (.t 19), none⟩] none)
 (.seq (.region [⟨(some 20), .mov (.t 0), none⟩,
  ⟨(some 21), .mov (.t 1), none⟩,
  ⟨(some 22), .slsl 1 (.t 20) none (some (.t 21)) none, none⟩,
  ⟨(some 23), .mov (.t 0), none⟩,
  ⟨(some 24), .mov (.t 2), none⟩,
  ⟨(some 25), .slsl 1 (.t 23) (some (.t 24)) none none, none⟩,
  ⟨(some 26), .append 1 8 [.int .u64 0] (.t 22) (.t 25), none⟩,
  ⟨(some 0), .mov (.t 26), none⟩] (some [[], [], [0, 1], [], [], [3, 4], [2, 5], [6, 6, 0, 1, 2, 3, 4, 5, 6]]))
 (.seq (.region [⟨(some 27), .mov (.t 0), none⟩,
  ⟨(some 28), .mov (.t 0), none⟩,
  ⟨(some 29), .len false (.t 28), none⟩,
  ⟨(some 30), .mov (.t 7), none⟩,
  ⟨(some 31), .slsl 1 (.t 27) (some (.t 29)) (some (.t 30)) none, none⟩,
  ⟨none, .clear 1 [.int .u64 0] (.t 31), none⟩] none)
 (.seq (.region [⟨(some 32), .mov (.t 0), none⟩,
  ⟨(some 6), .mov (.t 32), none⟩] none)
 (.ret)))))))
theorem fn39 : env0.fn 39 = some ⟨33, ic39, [.t 6]⟩ := by kernel_rfl
theorem clone27t {w0 : World} {N0 : Nat} (c : List (BitVec 64)) (h0 : c ≠ []) (hl : c.length ≤ 1000000) (H : HS) : FT Try.prog w0 N0 27 [.vs (cUs c)] H fun v H' => v = .ms (H.next + 1) (H.clk + 1) 1 0 c.length none ∧ H' = ⟨(H.next + 1, H.clk + 1, .cells (c.map cU)) :: (H.next, H.clk, .cells []) :: H.heap, H.next + 1 + 1, H.clk + 1 + 1⟩ := by
 obtain ⟨x, d, rfl⟩ := List.exists_cons_of_ne_nil h0
 have hcl : (cUs (x :: d)).length = (x :: d).length := List.length_map ..
 refine zd2 env0_ok fn27 [(0, .vs (cUs (x :: d)))] (by show 1 ≤ 8; decide) rfl ?_
 unfold ic27
 refine za7 (za0 rfl (za1 rfl (za5 (za6 (za7 (za7 (za0 rfl (za1 rfl ?_))))))))
 refine zeh (v := .bool false) (by rfl) ?_
 repeat (first | refine za7 ?_ | refine za0 rfl ?_ | refine za5 ?_ | refine za6 ?_ | refine zbe ?_ | refine zaf ?_ | refine zag ?_ | refine zbz rfl ?_ | refine zby rfl ?_ | refine zb2 ?_ | refine zaz ?_ | refine zb1 ?_ | refine za8 ?_ | refine zab rfl ?_ | refine za3 ?_ | refine za9 ?_ | refine zck rfl ?_ | refine zd4 rfl rfl ?_ | refine zdf rfl ?_ | refine za1 rfl ?_ | refine zam rfl rfl ?_ | refine zaw rfl rfl rfl rfl ?_ | refine zav rfl rfl rfl rfl rfl rfl rfl ?_ | refine zar rfl ?_ | refine zad rfl rfl rfl ?_ | refine za2 rfl rfl rfl ?_ | refine zaj rfl rfl rfl rfl ?_ | refine zay ?_ | refine zap rfl rfl ?_ | refine zan rfl rfl ?_ | refine zdn rfl rfl ?_ | refine zbc rfl rfl ?_ | refine zb3 rfl rfl ?_ | refine zal rfl rfl ?_ | refine zbt rfl rfl ?_ | refine zak rfl rfl rfl ?_ | refine zb4 rfl rfl ?_ | refine zaq rfl rfl rfl rfl ?_ | refine zai rfl rfl rfl rfl ?_ | refine zau rfl rfl rfl rfl ?_ | refine zbg rfl rfl ?_ | refine zbf rfl rfl ?_ | refine zah rfl rfl ?_ | refine zbj ?_ | refine zas env0_ok rfl rfl rfl ?_ | refine zae (op := .add) rfl rfl rfl ?_ | refine zae (op := .sub) rfl rfl rfl ?_ | refine zbi rfl rfl rfl ?_ | refine zbh rfl rfl rfl ?_ | refine zb9 rfl rfl rfl ?_ | refine zb6 rfl rfl rfl ?_ | refine zb7 rfl rfl (by omega) (by assumption) rfl ?_ | refine za2 rfl rfl (decide_eq_true ⟨by omega, by omega⟩) ?_ | refine zax rfl rfl (by omega) (by omega) ?_ | refine zat rfl rfl rfl ?_ | refine zbl rfl ?_ | refine zbk rfl ?_)
 refine zht (cUs (x :: d)) rfl rfl (zq2 zi2) (by rw [hcl]; exact Nat.succ_ne_zero _) (by rw [← zj0]; exact zl8 _) (by decide) zbp (by rw [hcl]; omega) ?_
 repeat (first | refine za7 ?_ | refine za0 rfl ?_ | refine za5 ?_ | refine za6 ?_ | refine zbe ?_ | refine zaf ?_ | refine zag ?_ | refine zbz rfl ?_ | refine zby rfl ?_ | refine zb2 ?_ | refine zaz ?_ | refine zb1 ?_ | refine za8 ?_ | refine zab rfl ?_ | refine za3 ?_ | refine za9 ?_ | refine zck rfl ?_ | refine zd4 rfl rfl ?_ | refine zdf rfl ?_ | refine za1 rfl ?_ | refine zam rfl rfl ?_ | refine zaw rfl rfl rfl rfl ?_ | refine zav rfl rfl rfl rfl rfl rfl rfl ?_ | refine zar rfl ?_ | refine zad rfl rfl rfl ?_ | refine za2 rfl rfl rfl ?_ | refine zaj rfl rfl rfl rfl ?_ | refine zay ?_ | refine zap rfl rfl ?_ | refine zan rfl rfl ?_ | refine zdn rfl rfl ?_ | refine zbc rfl rfl ?_ | refine zb3 rfl rfl ?_ | refine zal rfl rfl ?_ | refine zbt rfl rfl ?_ | refine zak rfl rfl rfl ?_ | refine zb4 rfl rfl ?_ | refine zaq rfl rfl rfl rfl ?_ | refine zai rfl rfl rfl rfl ?_ | refine zau rfl rfl rfl rfl ?_ | refine zbg rfl rfl ?_ | refine zbf rfl rfl ?_ | refine zah rfl rfl ?_ | refine zbj ?_ | refine zas env0_ok rfl rfl rfl ?_ | refine zae (op := .add) rfl rfl rfl ?_ | refine zae (op := .sub) rfl rfl rfl ?_ | refine zbi rfl rfl rfl ?_ | refine zbh rfl rfl rfl ?_ | refine zb9 rfl rfl rfl ?_ | refine zb6 rfl rfl rfl ?_ | refine zb7 rfl rfl (by omega) (by assumption) rfl ?_ | refine za2 rfl rfl (decide_eq_true ⟨by omega, by omega⟩) ?_ | refine zax rfl rfl (by omega) (by omega) ?_ | refine zat rfl rfl rfl ?_ | refine zbl rfl ?_ | refine zbk rfl ?_)
 exact zba ⟨.inr rfl, _, rfl, by rw [hcl], by rw [← zj0]; rfl⟩
theorem zit {w0 : World} {N0 id sp : Nat} (l : List (BitVec 64)) (hl : l.length ≤ 1000000) (a : Nat) (ha : a < l.length) (H : HS) (hlk : Am.look id H.heap = some (sp, .cells (l.map cU))) :
  FT Try.prog w0 N0 39 [.ms id sp 1 0 l.length none, .int .i64 (a : Nat), .int .i64 ((a + 1 : Nat) : Int)] H fun v H' => v = .vs (cUs (l.eraseIdx a)) ∧ H' = ⟨zcp id H.heap, H.next, H.clk⟩ := by
 refine zd2 env0_ok fn39 [(0, .ms id sp 1 0 l.length none), (1, .int .i64 (a : Nat)), (2, .int .i64 ((a + 1 : Nat) : Int))] (by show 3 ≤ 33; decide) rfl ?_
 have hel : (l.eraseIdx a).length = a + (l.length - (a + 1)) := by rw [List.length_eraseIdx, if_pos ha]; omega
 obtain ⟨xs, hxs⟩ : ∃ xs : List (List AV), xs = cUs l := ⟨_, rfl⟩
 have hcl : xs.length = l.length := by rw [hxs]; exact List.length_map ..
 have hsz : ∀ x ∈ xs, x.length = 1 := by rw [hxs]; exact zi2
 have hlk : Am.look id H.heap = some (sp, .cells (xs.flatten ++ [])) := by rw [hlk, zj0, List.append_nil, hxs]
 have hcell : ∀ k : Nat, (xs.drop k).flatten.all AV.isCell = true := fun k => by rw [hxs, ← zpu, ← zj0]; exact zl8 _
 have hee : xs.eraseIdx a = cUs (l.eraseIdx a) := by rw [hxs, ztl]
 have body : ∀ c : Nat, l.length ≤ c → Zm Try.prog w0 N0 (some none) ic39 (st 33 [(0, .ms id sp 1 0 l.length (some c)), (1, .int .i64 (a : Nat)), (2, .int .i64 ((a + 1 : Nat) : Int))] H.heap H.next H.clk) [] fun e S' => (e = .normal ∨ e = .ret) ∧ ∃ v, S'.leave.res [.t 6] = some v ∧ v = .vs (cUs (l.eraseIdx a)) ∧ S'.leave.hs = ⟨zcp id H.heap, H.next, H.clk⟩ := by
  intro c hc
  unfold ic39
  repeat (first | refine za7 ?_ | refine za0 rfl ?_ | refine za5 ?_ | refine za6 ?_ | refine za1 rfl ?_ | refine zbc rfl rfl ?_)
  refine zrx rfl rfl rfl rfl (by omega) (by omega) (by omega) (by omega) ?_
  repeat (first | refine za7 ?_ | refine za0 rfl ?_ | refine za5 ?_ | refine za6 ?_ | refine za1 rfl ?_)
  refine zbr rfl rfl rfl (fun h => ?_) fun _ => ?_
  ·have : ((a : Nat) : Int) = ((a + 1 : Nat) : Int) := by simpa using h
   omega
  repeat (first | refine za7 ?_ | refine za0 rfl ?_ | refine za5 ?_ | refine za6 ?_ | refine zag ?_ | refine zby rfl ?_ | refine za1 rfl ?_ | refine zbc rfl rfl ?_ | refine zas env0_ok rfl rfl rfl ?_)
  refine o_slsl rfl rfl rfl rfl rfl (by omega) (by omega) (by omega) ?_
  repeat (first | refine za1 rfl ?_)
  refine o_slsl rfl rfl rfl rfl rfl (by omega) (by omega) (by omega) ?_
  obtain ⟨ys1, e1, e2⟩ := zrl (ys := []) hsz (a := a) (by omega)
  have hdl : (xs.drop (a + 1)).length = l.length - (a + 1) := by rw [List.length_drop, hcl]
  obtain ⟨hp1, k1, k2, k3, k4⟩ : ∃ hp1, ((xs.drop (a + 1)).length ≠ 0 → hp1 = zbw id (sp, .cells (setAt (a * 1) (xs.flatten ++ []) (xs.drop (a + 1)).flatten)) H.heap) ∧ ((xs.drop (a + 1)).length = 0 → hp1 = H.heap) ∧ Am.look id hp1 = some (sp, .cells ((xs.eraseIdx a).flatten ++ ys1)) ∧ zcp id hp1 = zcp id H.heap := by
   by_cases h0 : (xs.drop (a + 1)).length = 0
   ·refine ⟨H.heap, fun h => absurd h0 h, fun _ => rfl, ?_, rfl⟩
    rw [List.length_eq_zero_iff.1 h0, List.flatten_nil, zju] at e1
    rw [hlk, e1]
   ·refine ⟨_, fun _ => rfl, fun h => absurd h h0, ?_, zhd _ _ _⟩
    rw [zaa, if_pos rfl, e1]
  refine zeg (xs.drop (a + 1)) (len := a) (c := c) (cs := xs.flatten ++ []) rfl rfl (zrk (a := a + 1) hlk hsz (by omega) (Nat.zero_add _) (by rw [hcl]; rfl)) (hcell _) (by decide) hlk ?_ (by omega) (by omega) hp1 k1 k2 ?_
  ·rw [List.length_append, zcs hsz, hcl, hdl, List.length_nil]
   omega
  rw [hdl, ← hel]
  repeat (first | refine za7 ?_ | refine za0 rfl ?_ | refine za5 ?_ | refine za6 ?_ | refine za1 rfl ?_ | refine zbc rfl rfl ?_)
  refine zvd rfl rfl rfl rfl rfl (by omega) (by omega) (.inr ⟨c, rfl, by omega⟩) fun c' h1 h2 => ?_
  have hfl : ((xs.eraseIdx a).flatten).length = (l.eraseIdx a).length * 1 := by rw [hee, zcs zi2, zcf]
  obtain ⟨ys2, e3⟩ := znr (off := (l.eraseIdx a).length * 1) (xs := (xs.eraseIdx a).flatten) (ys := ys1) (vs := zf9 (((l.length : Nat) : Int).toNat - (l.eraseIdx a).length) [.int .u64 0]) (by rw [hfl]; exact Nat.le_refl _)
  refine o_clear rfl k3 ?_ rfl (by decide) rfl ?_
  ·rw [List.length_append, hfl, e2, Nat.zero_add, Int.toNat_natCast, Int.toNat_natCast, hel]
   simp only [List.length_nil]
   omega
  rw [Nat.zero_add, Int.toNat_natCast, e3]
  refine za5 (za6 ?_)
  have hM : hasM.hasML ((xs.eraseIdx a).flatten ++ ys2) = false := by
   have b0 : ∀ k : Nat, hasM.hasML (xs.drop k).flatten = false := fun k => by rw [hxs, ← zpu, ← zj0]; exact zn7 _
   have b1 : hasM.hasML ((xs.eraseIdx a).flatten ++ ys1) = false := by rw [← e1]; exact zj9 (by have := b0 0; rw [List.drop_zero] at this; rw [List.append_nil]; exact this) (b0 _)
   rw [← e3]
   exact zj9 b1 (zkv _)
  refine z_freeze id sp (by rw [zaa, if_pos rfl]) hM (l' := [(0, .vs (cUs (l.eraseIdx a)))]) (.cons rfl (.fms (xs := cUs (l.eraseIdx a)) (List.length_map ..) zi2 ⟨ys2, by rw [List.drop_zero, hee]⟩) .nil) ?_
  repeat (first | refine za7 ?_ | refine za0 rfl ?_ | refine za5 ?_ | refine za6 ?_ | refine zaz ?_ | refine za1 rfl ?_)
  refine zba ⟨.inr rfl, _, rfl, rfl, ?_⟩
  show (⟨zcp id (zbw id _ hp1), H.next, H.clk⟩ : HS) = _
  rw [zhd, k4]
 exact z_cap 0 rfl fun c hc => zh6 (zao (.cons rfl (.cons rfl (.cons rfl .nil)))) (body c hc)
end Go.Proofs.Ytknomkcdpcnmaaa
