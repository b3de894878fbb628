/-
  LISTS COPIED, AND WITHOUT AN ELEMENT.
-/
import Derived.Test.YtknomkcdpcnmaaaKV2
namespace Go.Proofs.Ytknomkcdpcnmaaa
open Go Go.Am
-- slices.Clone[[]int,int]
def ic45 : IC := .seq (.region [⟨(some 2), .mov (.c (.nils)), none⟩] none)
 (.seq (.seq (.region [⟨(some 3), .mov (.t 0), none⟩,
  ⟨(some 4), .nilq false (.t 3), none⟩] none)
 (.cond (.t 4) (.seq (.region [⟨(some 2), .mov (.c (.nils)), none⟩] none)
 (.ret))
 (.skip)))
 (.seq (.region [⟨(some 5), .bslice 1 0 [] [], none⟩,
  ⟨(some 6), .mov (.t 0), none⟩,
  ⟨(some 7), .append 1 8 [.int .i64 0] (.t 5) (.t 6), none⟩,
  ⟨(some 2), .mov (.t 7), none⟩] none)
 (.ret)))
theorem fn45 : env0.fn 45 = some ⟨8, ic45, [.t 2]⟩ := by kernel_rfl
-- slices.Delete[[]int,int]
def ic63 : IC := .seq (.region [⟨(some 6), .mov (.c (.nils)), none⟩] none)
 (.seq (.region [⟨(some 8), .mov (.t 0), none⟩,
  ⟨(some 9), .mov (.t 1), none⟩,
  ⟨(some 10), .mov (.t 2), none⟩,
  ⟨(some 11), .mov (.t 0), none⟩,
  ⟨(some 12), .len false (.t 11), none⟩,
  ⟨(some 13), .slsl 1 (.t 8) (some (.t 9)) (some (.t 10)) (some (.t 12)), none⟩] none)
 (.seq (.seq (.region [⟨(some 14), .mov (.t 1), none⟩,
  ⟨(some 15), .mov (.t 2), none⟩,
  ⟨(some 16), .bin .eql (.t 14) (.t 15), none⟩] none)
 (.cond (.t 16) (.seq (.region [⟨(some 17), .mov (.t 0), none⟩,
  ⟨(some 6), .mov (.t 17), none⟩] none)
 (.ret))
 (.skip)))
 (.seq (.region [⟨(some 18), .mov (.t 0), none⟩,
  ⟨(some 19), .len false (.t 18), none⟩,
  ⟨(some 7), .mov (.t 19), none⟩] none)
 (.seq (.region [⟨(some 20), .mov (.t 0), none⟩,
  ⟨(some 21), .mov (.t 1), none⟩,
  ⟨(some 22), .slsl 1 (.t 20) none (some (.t 21)) none, none⟩,
  ⟨(some 23), .mov (.t 0), none⟩,
  ⟨(some 24), .mov (.t 2), none⟩,
  ⟨(some 25), .slsl 1 (.t 23) (some (.t 24)) none none, none⟩,
  ⟨(some 26), .append 1 8 [.int .i64 0] (.t 22) (.t 25), none⟩,
  ⟨(some 0), .mov (.t 26), none⟩] (some [[], [], [0, 1], [], [], [3, 4], [2, 5], [6, 6, 0, 1, 2, 3, 4, 5, 6]]))
 (.seq (.region [⟨(some 27), .mov (.t 0), none⟩,
  ⟨(some 28), .mov (.t 0), none⟩,
  ⟨(some 29), .len false (.t 28), none⟩,
  ⟨(some 30), .mov (.t 7), none⟩,
  ⟨(some 31), .slsl 1 (.t 27) (some (.t 29)) (some (.t 30)) none, none⟩,
  ⟨none, .clear 1 [.int .i64 0] (.t 31), none⟩] none)
 (.seq (.region [⟨(some 32), .mov (.t 0), none⟩,
  ⟨(some 6), .mov (.t 32), none⟩] none)
 (.ret)))))))
theorem fn63 : env0.fn 63 = some ⟨33, ic63, [.t 6]⟩ := by kernel_rfl
theorem PFn_nil {P : Program} {f : FuncId} {args : List AV} (h : PF P f args (.vs [])) : PFn P f args (.vs []) :=
 ⟨h.1, fun ro w us hg ha => (h.2 ro w us hg ha).mono fun e w' ⟨u, e1, e2, e3⟩ => ⟨u, e1, e2, by
  cases e3 with
  | vs us hl hcap ha hsz hc hv => exact .vs (b := 0) (off := 0) us hl hcap (fun h => absurd rfl h) (fun x hx => hsz x hx) (fun i j e x he => by simp at he) (fun i j e x he => by simp at he)⟩⟩
theorem zp1 (c : List Int) (hl : c.length ≤ 1000000) : PFn Try.prog 45 [vsI c] (vsI c) := by
 cases c with
 | nil =>
  refine PFn_nil ?_
  refine zc2 env0_ok fn45 [(0, vsI [])] (by show 1 ≤ 8; decide) rfl fun w0 N0 => ?_
  unfold ic45
  refine za7 (za0 rfl (za2 rfl (za5 (za6 (za7 (za7 (za0 rfl (za2 rfl ?_))))))))
  refine o_nilq (es := []) rfl fun b => ?_
  cases b
  ·repeat (first | refine za7 ?_ | refine za0 rfl ?_ | refine za5 ?_ | refine za6 ?_ | refine zah ?_ | refine zbw rfl ?_ | refine zaz ?_ | refine za2 rfl ?_ | refine zal rfl rfl ?_ | refine zap rfl rfl rfl rfl ?_)
   exact zbe ⟨.inr rfl, _, rfl, rfl⟩
  ·repeat (first | refine za7 ?_ | refine za0 rfl ?_ | refine za5 ?_ | refine za6 ?_ | refine zbz rfl ?_ | refine zaz ?_ | refine za3 ?_ | refine za2 rfl ?_)
   exact zbe ⟨.inr rfl, _, rfl, rfl⟩
 | cons x c =>
  have hcl : ((x :: c).map fun z => ([.int .i64 z] : List AV)).length = (x :: c).length := List.length_map ..
  refine zq7 env0_ok fn45 [(0, vsI (x :: c))] (by show 1 ≤ 8; decide) rfl fun w0 N0 => ?_
  unfold ic45
  refine za7 (za0 rfl (za2 rfl (za5 (za6 (za7 (za7 (za0 rfl (za2 rfl ?_))))))))
  refine zei (v := .bool false) (by rfl) ?_
  repeat (first | refine za7 ?_ | refine za0 rfl ?_ | refine za5 ?_ | refine za6 ?_ | refine zah ?_ | refine zbw rfl ?_ | refine za2 rfl ?_ | refine zal rfl rfl ?_)
  refine zi2 ((x :: c).map fun z => [.int .i64 z]) rfl rfl (zqx zer) (by rw [hcl]; exact Nat.succ_ne_zero _) (by rw [← zdp]; exact zjk _) (by decide) zbs (by rw [hcl]; omega) ?_
  repeat (first | refine za5 ?_ | refine za6 ?_ | refine zaz ?_ | refine za2 rfl ?_)
  refine zbe ⟨.inr rfl, _, rfl, ?_⟩
  refine OwnR.ints (x :: c) hcl.symm ?_
  show Am.look 1 ((1, 1, _) :: _) = _
  rw [← zdp]
  rfl
theorem clone45t {w0 : World} {N0 : Nat} (c : List Int) (h0 : c ≠ []) (hl : c.length ≤ 1000000) (H : HS) : FT Try.prog w0 N0 45 [vsI c] H fun v H' => v = .ms (H.next + 1) (H.clk + 1) 1 0 c.length none ∧ H' = ⟨(H.next + 1, H.clk + 1, .cells (c.map (AV.int .i64))) :: (H.next, H.clk, .cells []) :: H.heap, H.next + 1 + 1, H.clk + 1 + 1⟩ := by
 obtain ⟨x, d, rfl⟩ := List.exists_cons_of_ne_nil h0
 have hcl : ((x :: d).map fun z => ([.int .i64 z] : List AV)).length = (x :: d).length := List.length_map ..
 refine zd7 env0_ok fn45 [(0, vsI (x :: d))] (by show 1 ≤ 8; decide) rfl ?_
 unfold ic45
 refine za7 (za0 rfl (za2 rfl (za5 (za6 (za7 (za7 (za0 rfl (za2 rfl ?_))))))))
 refine zei (v := .bool false) (by rfl) ?_
 repeat (first | refine za7 ?_ | refine za0 rfl ?_ | refine za5 ?_ | refine za6 ?_ | refine zah ?_ | refine zbw rfl ?_ | refine za2 rfl ?_ | refine zal rfl rfl ?_)
 refine zi2 ((x :: d).map fun z => [.int .i64 z]) rfl rfl (zqx zer) (by rw [hcl]; exact Nat.succ_ne_zero _) (by rw [← zdp]; exact zjk _) (by decide) zbs (by rw [hcl]; omega) ?_
 repeat (first | refine za5 ?_ | refine za6 ?_ | refine zaz ?_ | refine za2 rfl ?_)
 exact zbe ⟨.inr rfl, _, rfl, by rw [hcl], by rw [← zdp]; rfl⟩
theorem zsk (l : List Int) (a : Nat) : (l.map fun z => ([.int .i64 z] : List AV)).eraseIdx a = (l.eraseIdx a).map fun z => ([.int .i64 z] : List AV) := by
 rw [List.eraseIdx_eq_take_drop_succ, List.eraseIdx_eq_take_drop_succ, List.map_append, List.map_take, List.map_drop]
theorem zhm {α : Type} (i : Nat) (v : α) : ∀ l : List (Nat × α), zcp i (zbv i v l) = zcp i l
 | [] => by simp [zrq, znj, ze1]
 | (j, u) :: l => by
  rw [zk4]
  by_cases h : j = i
  ·rw [if_pos h, ze1, if_pos rfl, ze1, if_pos h]
  ·rw [if_neg h, ze1, if_neg h, ze1, if_neg h, zhm i v l]
theorem zje : ∀ {l : List AV}, hasM.hasML l = false ↔ ∀ x ∈ l, hasM x = false
 | [] => by simp [hasM.hasML]
 | x :: l => by
  rw [hasM.hasML, Bool.or_eq_false_iff, @zje l]
  simp
theorem zjf {i : Nat} {xs vs : List AV} (h1 : hasM.hasML xs = false) (h2 : hasM.hasML vs = false) : hasM.hasML (setAt i xs vs) = false := by
 rw [zje] at *
 intro x hx
 unfold setAt at hx
 rcases List.mem_append.1 hx with hx | hx
 ·rcases List.mem_append.1 hx with hx | hx
  ·exact h1 x (List.mem_of_mem_take hx)
  ·exact h2 x hx
 ·exact h1 x (List.mem_of_mem_drop hx)
theorem zo6 : ∀ k : Nat, hasM.hasML (zfd k [.int .i64 0]) = false
 | 0 => rfl
 | k + 1 => by
  have := zo6 k
  rw [zje] at *
  intro x hx
  rcases List.mem_append.1 (show x ∈ [.int .i64 0] ++ zfd k [.int .i64 0] from hx) with hx | hx
  ·obtain rfl := List.mem_singleton.1 hx
   rfl
  ·exact this x hx
theorem zun {w0 : World} {N0 id sp : Nat} (l : List Int) (hl : l.length ≤ 1000000) (a : Nat) (ha : a < l.length) (H : HS) (hlk : Am.look id H.heap = some (sp, .cells (l.map (AV.int .i64)))) :
  FT Try.prog w0 N0 63 [.ms id sp 1 0 l.length none, .int .i64 (a : Nat), .int .i64 ((a + 1 : Nat) : Int)] H fun v H' => v = vsI (l.eraseIdx a) ∧ H' = ⟨zcp id H.heap, H.next, H.clk⟩ := by
 refine zd7 env0_ok fn63 [(0, .ms id sp 1 0 l.length none), (1, .int .i64 (a : Nat)), (2, .int .i64 ((a + 1 : Nat) : Int))] (by show 3 ≤ 33; decide) rfl ?_
 have hel : (l.eraseIdx a).length = a + (l.length - (a + 1)) := by rw [List.length_eraseIdx, if_pos ha]; omega
 obtain ⟨xs, hxs⟩ : ∃ xs : List (List AV), xs = l.map fun z => ([.int .i64 z] : List AV) := ⟨_, rfl⟩
 have hcl : xs.length = l.length := by rw [hxs]; exact List.length_map ..
 have hsz : ∀ x ∈ xs, x.length = 1 := by rw [hxs]; exact zer
 have hlk : Am.look id H.heap = some (sp, .cells (xs.flatten ++ [])) := by rw [hlk, zdp, List.append_nil, hxs]
 have hcell : ∀ k : Nat, (xs.drop k).flatten.all AV.isCell = true := fun k => by rw [hxs, ← List.map_drop, ← zdp]; exact zjk _
 have hee : xs.eraseIdx a = (l.eraseIdx a).map fun z => ([.int .i64 z] : List AV) := by rw [hxs, zsk]
 have body : ∀ c : Nat, l.length ≤ c → Zm Try.prog w0 N0 (some none) ic63 (st 33 [(0, .ms id sp 1 0 l.length (some c)), (1, .int .i64 (a : Nat)), (2, .int .i64 ((a + 1 : Nat) : Int))] H.heap H.next H.clk) [] fun e S' => (e = .normal ∨ e = .ret) ∧ ∃ v, S'.leave.res [.t 6] = some v ∧ v = vsI (l.eraseIdx a) ∧ S'.leave.hs = ⟨zcp id H.heap, H.next, H.clk⟩ := by
  intro c hc
  unfold ic63
  repeat (first | refine za7 ?_ | refine za0 rfl ?_ | refine za5 ?_ | refine za6 ?_ | refine za2 rfl ?_ | refine zbb rfl rfl ?_)
  refine zsu rfl rfl rfl rfl (by omega) (by omega) (by omega) (by omega) ?_
  repeat (first | refine za7 ?_ | refine za0 rfl ?_ | refine za5 ?_ | refine za6 ?_ | refine za2 rfl ?_)
  refine zbt rfl rfl rfl (fun h => ?_) fun _ => ?_
  ·have : ((a : Nat) : Int) = ((a + 1 : Nat) : Int) := by simpa using h
   omega
  repeat (first | refine za7 ?_ | refine za0 rfl ?_ | refine za5 ?_ | refine za6 ?_ | refine zah ?_ | refine zbw rfl ?_ | refine za2 rfl ?_ | refine zbb rfl rfl ?_ | refine zao env0_ok rfl rfl rfl ?_)
  refine o_slsl rfl rfl rfl rfl rfl (by omega) (by omega) (by omega) ?_
  repeat (first | refine za2 rfl ?_)
  refine o_slsl rfl rfl rfl rfl rfl (by omega) (by omega) (by omega) ?_
  obtain ⟨ys1, e1, e2⟩ := zsj (ys := []) hsz (a := a) (by omega)
  have hdl : (xs.drop (a + 1)).length = l.length - (a + 1) := by rw [List.length_drop, hcl]
  obtain ⟨hp1, k1, k2, k3, k4⟩ : ∃ hp1, ((xs.drop (a + 1)).length ≠ 0 → hp1 = zbv id (sp, .cells (setAt (a * 1) (xs.flatten ++ []) (xs.drop (a + 1)).flatten)) H.heap) ∧ ((xs.drop (a + 1)).length = 0 → hp1 = H.heap) ∧ Am.look id hp1 = some (sp, .cells ((xs.eraseIdx a).flatten ++ ys1)) ∧ zcp id hp1 = zcp id H.heap := by
   by_cases h0 : (xs.drop (a + 1)).length = 0
   ·refine ⟨H.heap, fun h => absurd h0 h, fun _ => rfl, ?_, rfl⟩
    rw [List.length_eq_zero_iff.1 h0, List.flatten_nil, zk8] at e1
    rw [hlk, e1]
   ·refine ⟨_, fun _ => rfl, fun h => absurd h h0, ?_, zhm _ _ _⟩
    rw [zab, if_pos rfl, e1]
  refine zeh (xs.drop (a + 1)) (len := a) (c := c) (cs := xs.flatten ++ []) rfl rfl (zsi (a := a + 1) hlk hsz (by omega) (Nat.zero_add _) (by rw [hcl]; rfl)) (hcell _) (by decide) hlk ?_ (by omega) (by omega) hp1 k1 k2 ?_
  ·rw [List.length_append, zcu hsz, hcl, hdl, List.length_nil]
   omega
  rw [hdl, ← hel]
  repeat (first | refine za7 ?_ | refine za0 rfl ?_ | refine za5 ?_ | refine za6 ?_ | refine za2 rfl ?_ | refine zbb rfl rfl ?_)
  refine zw1 rfl rfl rfl rfl rfl (by omega) (by omega) (.inr ⟨c, rfl, by omega⟩) fun c' h1 h2 => ?_
  have hfl : ((xs.eraseIdx a).flatten).length = (l.eraseIdx a).length * 1 := by rw [hee, zcu zer, List.length_map]
  obtain ⟨ys2, e3⟩ := zod (off := (l.eraseIdx a).length * 1) (xs := (xs.eraseIdx a).flatten) (ys := ys1) (vs := zfd (((l.length : Nat) : Int).toNat - (l.eraseIdx a).length) [.int .i64 0]) (by rw [hfl]; exact Nat.le_refl _)
  refine o_clear rfl k3 ?_ rfl (by decide) rfl ?_
  ·rw [List.length_append, hfl, e2, Nat.zero_add, Int.toNat_natCast, Int.toNat_natCast, hel]
   simp only [List.length_nil]
   omega
  rw [Nat.zero_add, Int.toNat_natCast, e3]
  refine za5 (za6 ?_)
  have hM : hasM.hasML ((xs.eraseIdx a).flatten ++ ys2) = false := by
   have b0 : ∀ k : Nat, hasM.hasML (xs.drop k).flatten = false := fun k => by rw [hxs, ← List.map_drop, ← zdp]; exact zeq _
   have b1 : hasM.hasML ((xs.eraseIdx a).flatten ++ ys1) = false := by rw [← e1]; exact zjf (by have := b0 0; rw [List.drop_zero] at this; rw [List.append_nil]; exact this) (b0 _)
   rw [← e3]
   exact zjf b1 (zo6 _)
  refine z_freeze id sp (by rw [zab, if_pos rfl]) hM (l' := [(0, vsI (l.eraseIdx a))]) (.cons rfl (.fms (xs := (l.eraseIdx a).map fun z => [.int .i64 z]) (List.length_map ..) zer ⟨ys2, by rw [List.drop_zero, hee]⟩) .nil) ?_
  repeat (first | refine za7 ?_ | refine za0 rfl ?_ | refine za5 ?_ | refine za6 ?_ | refine zaz ?_ | refine za2 rfl ?_)
  refine zbe ⟨.inr rfl, _, rfl, rfl, ?_⟩
  show (⟨zcp id (zbv id _ hp1), H.next, H.clk⟩ : HS) = _
  rw [zhm, k4]
 exact z_cap 0 rfl fun c hc => zi0 (zay (.cons rfl (.cons rfl (.cons rfl .nil)))) (body c hc)
end Go.Proofs.Ytknomkcdpcnmaaa
