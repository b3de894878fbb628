/-
  THE VARIABLES THAT OCCUR, AS THE PROGRAM COLLECTS THEM.; THE VARIABLES: both lists are one; what does not occur does not matter.; Check, Size and Variables answer as the reference: the law.; WHAT EVERY LAW OF THE SEAT SHARES.; READING THE ARGUMENTS.
-/
import Derived.Test.YtmnkjofaodbokaaDX3
import Derived.Test.YtmnkjofaodbokaaRows
import Derived.JoinedCond
namespace Go.Proofs.Ytmnkjofaodbokaa
open Go Go.Am
noncomputable def zkh : Code := match env0.fn 28 with
 | some i => ((zbq i.ic)[0]?.getD (.skip, .skip)).1
 | none => .skip
noncomputable def zki : Code := match env0.fn 28 with
 | some i => ((zbq i.ic)[0]?.getD (.skip, .skip)).2
 | none => .skip
def zlr : IC := .region [⟨(some 9), .alloc [.int .i64 0, .int .i64 0, .nils], none⟩,
  ⟨none, .store 3 (.t 9) (.t 19), none⟩] none
def zs7 : IC := .block 1 (.seq (.region [⟨(some 20), .faddr 0 (.t 9), none⟩,
  ⟨(some 21), .load none (.t 20), none⟩,
  ⟨(some 22), .bin .eql (.t 21) (.c (.int .i64 1)), none⟩] none)
 (.cond (.t 22) (.region [⟨(some 23), .load none (.t 7), none⟩,
  ⟨(some 24), .faddr 1 (.t 9), none⟩,
  ⟨(some 25), .load none (.t 24), none⟩,
  ⟨(some 26), .bslice 1 1 [.int .i64 0] [(0, 1, (.t 25))], none⟩,
  ⟨(some 27), .append 1 8 [.int .i64 0] (.t 23) (.t 26), none⟩,
  ⟨none, .store 1 (.t 7) (.t 27), none⟩] none)
 (.skip)))
-- pneumatic/boolexp.Variables
noncomputable def ic28 : IC := .seq (.region [⟨(some 2), .box (.t 0), none⟩,
  ⟨(some 4), .mov (.c (.nils)), none⟩,
  ⟨(some 5), .mov (.c (.int .i64 0)), none⟩] none)
 (.seq (.seq (.region [⟨(some 10), .load (some 3) (.t 2), none⟩,
  ⟨(some 11), .mov (.t 1), none⟩,
  ⟨(some 12), .call (.c (.fn 32 [] [])) [(.t 10), (.t 11)], none⟩,
  ⟨(some 6), .mov (.t 12), none⟩] none)
 (.seq (.region [⟨(some 13), .mov (.t 6), none⟩,
  ⟨(some 14), .bin .neq (.t 13) (.c (.int .i64 0)), none⟩] none)
 (.cond (.t 14) (.seq (.region [⟨(some 15), .mov (.t 6), none⟩,
  ⟨(some 4), .mov (.c (.nils)), none⟩,
  ⟨(some 5), .mov (.t 15), none⟩] none)
 (.ret))
 (.skip))))
 (.seq (.region [⟨(some 7), .alloc [.nils], none⟩] none)
 (.seq (.seq (.region [⟨(some 16), .load (some 3) (.t 2), none⟩,
  ⟨(some 17), .call (.c (.fn 63 [] [])) [(.t 16)], none⟩] none)
 (.block 0 (.rangeFunc (.t 17) [18, 19] zkh zki zlr zs7)))
 (.seq (.region [⟨(some 28), .load none (.t 7), none⟩,
  ⟨(some 29), .call (.c (.fn 64 [] [])) [(.t 28)], none⟩] none)
 (.seq (.region [⟨(some 30), .load none (.t 7), none⟩,
  ⟨(some 31), .call (.c (.fn 65 [] [])) [(.t 30)], none⟩,
  ⟨(some 4), .mov (.t 31), none⟩,
  ⟨(some 5), .mov (.c (.int .i64 0)), none⟩] none)
 (.ret))))))
theorem fn28 : env0.fn 28 = some ⟨32, ic28, [.t 4, .t 5]⟩ := by kernel_rfl
mutual
def zoq : Ex → List Int
 | .nd op ix args => (if op = 1 then [ix] else []) ++ zkk args
def zkk : List Ex → List Int
 | [] => []
 | y :: ys => zoq y ++ zkk ys
end
def zlh (s : List Int) (_ : Int) (x : Ex) : List Int ⊕ Unit := match x with
 | .nd op ix _ => .inl (if op = 1 then s ++ [ix] else s)
theorem stepV_m (s : List Int) (d : Int) (x : Ex) (s1 : List Int) (h : zlh s d x = .inl s1) : (s1.length : Int) ≤ (s.length : Int) + 1 := by
 obtain ⟨op, ix, args⟩ := x
 unfold zlh at h
 injection h with h
 subst h
 split
 ·rw [List.length_append]; show ((s.length + 1 : Nat) : Int) ≤ _; omega
 ·omega
mutual
theorem walkV : ∀ (x : Ex) (d : Int) (s : List Int), d ≤ 17 → zc5 (17 - d).toNat x = true → zc7 zlh d x s = .inl (s ++ zoq x)
 | .nd op ix args => fun d s h17 hb => by
  have h16 : d ≤ 16 := by
   by_cases h : d ≤ 16
   ·exact h
   ·rw [show (17 - d).toNat = 0 by omega] at hb
    simp [zc5] at hb
  rw [show (17 - d).toNat = (16 - d).toNat + 1 by omega, zec] at hb
  rw [zc7, zoq]
  have hst : zlh s d (.nd op ix args) = .inl (if op = 1 then s ++ [ix] else s) := rfl
  rw [hst]
  dsimp only
  rw [walkLV args d _ h16 hb]
  by_cases h1 : op = 1
  ·rw [if_pos h1, if_pos h1, List.append_assoc]
  ·rw [if_neg h1, if_neg h1, List.nil_append]
theorem walkLV : ∀ (l : List Ex) (d : Int) (s : List Int), d ≤ 16 → l.all (zc5 (16 - d).toNat) = true → zc3 zlh d l s = .inl (s ++ zkk l)
 | [] => fun d s h16 hb => by rw [zc3, zkk, List.append_nil]
 | y :: ys => fun d s h16 hb => by
  rw [List.all_cons, Bool.and_eq_true] at hb
  rw [zc3, if_pos h16, walkV y (d + 1) s (by omega) (by rw [show (17 - (d + 1)).toNat = (16 - d).toNat by omega]; exact hb.1)]
  dsimp only
  rw [walkLV ys d _ h16 hb.2, zkk, List.append_assoc]
end
structure I28 (ltm : List (Nat × AV)) (s : List Int) (H : HS) : Prop where
 nx : 4 ≤ H.next
 h3 : Am.look 3 H.heap = some (2, .loop .ready none 32 (zdi ltm) [18, 19] zkh zki (2, 1))
 h2 : Am.look 2 H.heap = some (1, .deferred)
 h0 : ∃ sp, Am.look 0 H.heap = some (0, .cells [.ms 1 sp 1 0 s.length none]) ∧ Am.look 1 H.heap = some (sp, .cells (s.map (AV.int .i64)))
theorem local28 (ltm : List (Nat × AV)) : Local (fun i => i < 4) (I28 ltm) :=
 ⟨fun s H h i hi => Nat.lt_of_lt_of_le hi h.nx, fun s H H' h hn hl =>
  ⟨Nat.le_trans h.nx hn, (hl 3 (by decide)).trans h.h3, (hl 2 (by decide)).trans h.h2, let ⟨sp, a, b⟩ := h.h0; ⟨sp, (hl 0 (by decide)).trans a, (hl 1 (by decide)).trans b⟩⟩⟩
set_option maxHeartbeats 2000000 in
theorem yield28 {w0 : World} {N0 : Nat} (ltm : List (Nat × AV)) (g7 : zbo (.t 7) ltm = some (.mptr 0 0 0)) (ha : Com Try.prog zkh zlr) (hb : Com Try.prog zki zs7) (s : List Int) (d : Int) (x : Ex) (H : HS) (hm : (s.length : Int) + 1 ≤ 256) (h : I28 ltm s H) :
  CT Try.prog w0 N0 (.yield 3 2) [.int .i64 d, .agg (cX x)] H (zph (fun i => i < 4) (I28 ltm) (fun (_ : Unit) _ => False) H (zlh s d x)) := by
 obtain ⟨op, ix, args⟩ := x
 obtain ⟨nx, h3, h2, sp, h0, h1⟩ := h
 refine zkm (l0 := (19, .agg (cX (.nd op ix args))) :: (18, .int .i64 d) :: ltm) h3 ha hb rfl (by decide) rfl ?_
 unfold zlr
 repeat (first | refine za0 rfl ?_ | refine zca ?_)
 refine zay (sp := H.clk) (cs := [.int .i64 0, .int .i64 0, .nils]) rfl rfl rfl rfl zau rfl rfl ?_
 repeat (first | refine za4 ?_)
 refine zac ⟨rfl, _, _, _, _, rfl, ?_, ?_⟩
 ·rw [zde, zai, if_neg (by omega)]; exact h3
 rw [zde]
 unfold zs7
 repeat (first | refine za7 ?_ | refine za0 rfl ?_ | refine zat ?_)
 repeat (first | refine zaa rfl ?_)
 refine zbs (sp := H.clk) (cs := cX (.nd op ix args)) rfl (by rw [za1, if_neg (by omega)]; exact zau) (by omega) rfl ?_
 refine zam rfl rfl rfl (fun hg => ?_) fun hg => ?_
 ·have hg : op = 1 := by simpa using hg
  have hst : zlh s d (.nd op ix args) = .inl (s ++ [ix]) := by
   show Sum.inl (if op = 1 then s ++ [ix] else s) = _
   rw [if_pos hg]
  rw [hst]
  repeat (first | refine za0 rfl ?_ | refine za4 ?_ | refine za5 ?_ | refine zbl rfl ?_)
  refine zbs (sp := 0) (cs := [.ms 1 sp 1 0 s.length none]) g7 (by rw [za1, if_neg (by decide), zax (by omega)]; exact h0) (by omega) rfl ?_
  refine zaa rfl ?_
  refine zbs (sp := H.clk) (cs := cX (.nd op ix args)) rfl (by rw [za1, if_neg (by omega)]; exact zau) (by omega) rfl ?_
  refine zju rfl rfl ?_
  refine zhp [[.int .i64 ix]] (id := 1) (sp := sp) (len := s.length) (cs := s.map (AV.int .i64)) rfl rfl (zjb (xs := [[.int .i64 ix]]) (ys := []) zau rfl fun x hx => by obtain rfl := List.mem_singleton.1 hx; rfl) (fun h => Nat.noConfusion h) rfl (by decide) (by rw [zai, if_neg (by omega), za1, if_neg (by decide), zax (by omega)]; exact h1) (by rw [List.length_map, Nat.mul_one]) (by show _ + 1 ≤ _; omega) ?_
  refine zay (sp := 0) (cs := [.ms 1 sp 1 0 s.length none]) g7 rfl rfl rfl (by rw [za1, if_neg (by decide), zai, if_neg (by omega), za1, if_neg (by decide), zax (by omega)]; exact h0) rfl rfl ?_
  repeat (first | refine za4 ?_ | refine zcv ?_)
  refine zac ⟨32, zdi ltm, [18, 19], zkh, zki, (2, 1), ?_, none, rfl, ⟨by show H.next ≤ H.next + 1 + 1; omega, by show H.clk ≤ H.clk + 1 + 1 + 1; omega, fun i hi hj => ?_⟩, ?_⟩
  ·dsimp only [st]
   rw [za1, if_neg (by decide), za1, if_neg (by decide), zai, if_neg (by omega), za1, if_pos rfl]
  ·dsimp only [st]
   rw [za1, if_neg (by omega), za1, if_neg (by omega), za1, if_neg (by omega), zai, if_neg (by omega), za1, if_neg (by omega), zax (by omega)]
  ·refine ⟨rfl, by show 4 ≤ H.next + 1 + 1; omega, ?_, ?_, H.clk + 1 + 1, ?_, ?_⟩
   ·dsimp only [st]
    rw [za1, if_pos rfl]; rfl
   all_goals
    dsimp only [st]
    rw [za1, if_neg (by decide)]
   ·rw [za1, if_neg (by decide), za1, if_neg (by decide), zai, if_neg (by omega), za1, if_neg (by decide), zax (by omega)]; exact h2
   ·rw [za1, if_pos rfl, List.length_append]; rfl
   ·rw [za1, if_neg (by decide), za1, if_pos rfl, List.map_append]; rfl
 ·have hg : ¬ op = 1 := by simpa using hg
  have hst : zlh s d (.nd op ix args) = .inl s := by
   show Sum.inl (if op = 1 then s ++ [ix] else s) = _
   rw [if_neg hg]
  rw [hst]
  repeat (first | refine za4 ?_ | refine za5 ?_ | refine zcv ?_ | refine zaf ?_ | refine zc0 rfl ?_)
  refine zac ⟨32, zdi ltm, [18, 19], zkh, zki, (2, 1), ?_, none, rfl, ⟨Nat.le_succ _, Nat.le_succ _, fun i hi hj => ?_⟩, ?_⟩
  ·dsimp only [st]
   rw [za1, if_pos rfl]
  ·dsimp only [st]
   rw [za1, if_neg (by omega), za1, if_neg (by omega), zax (by omega)]
  ·refine ⟨rfl, Nat.le_succ_of_le nx, ?_, ?_, sp, ?_, ?_⟩
   ·dsimp only [st]
    rw [za1, if_pos rfl]; rfl
   all_goals
    dsimp only [st]
    rw [za1, if_neg (by decide), za1, if_neg (by decide), zax (by omega)]
   ·exact h2
   ·exact h0
   ·exact h1
def tabS64 : Tab := [(64, [([.vs []], .tup [])]), (65, [([.vs []], .vs [])])]
theorem zlj : TabOk Try.prog tabS64 := TabOk.of_run (env0_ok.tab TabOk.nil (pure := [])) (n := 60) (by kernel_rfl)
theorem ints64 : PF Try.prog 64 [.vs []] (.tup []) := zlj _ (List.mem_cons_self ..) _ (List.mem_cons_self ..)
theorem zqj : PF Try.prog 65 [.vs []] (.vs []) := zlj _ (List.mem_cons_of_mem _ (List.mem_cons_self ..)) _ (List.mem_cons_self ..)
mutual
theorem znb : ∀ x : Ex, ((zoq x).length : Int) ≤ szX x
 | .nd op ix args => by
  rw [zoq, szX, List.length_append]
  have h := zkl args
  split
  ·show ((1 + (zkk args).length : Nat) : Int) ≤ _; omega
  ·show ((0 + (zkk args).length : Nat) : Int) ≤ _; omega
theorem zkl : ∀ l : List Ex, ((zkk l).length : Int) ≤ szL l
 | [] => by rw [zkk, szL]; show ((0 : Nat) : Int) ≤ 0; omega
 | y :: ys => by
  rw [zkk, szL, List.length_append]
  have h1 := znb y
  have h2 := zkl ys
  omega
end
def varL (x : Ex) : List Int := cps (srt (zoq x))
def varsP (x : Ex) (n : Int) : AV := if zc8 x n = 0 then .tup [vsI (varL x), .int .i64 0] else .tup [.vs [], .int .i64 (zc8 x n)]
set_option maxHeartbeats 2000000 in
theorem zmr (x : Ex) (hs : Slim x) (n : Int) : PF Try.prog 28 [.agg (cX x), .int .i64 n] (varsP x n) := by
 have p32 := zlv x hs n
 rw [zeb] at p32
 unfold varsP
 have hlt : zc8 x n = 0 → zcw x = true := fun h => by
  unfold zc8 at h
  split at h
  ·omega
  ·split at h
   ·assumption
   ·omega
 generalize zc8 x n = e at *
 obtain ⟨op, ix, args⟩ := x
 refine zb2 env0_ok fn28 [(0, .agg (cX (.nd op ix args))), (1, .int .i64 n)] (by show 2 ≤ 32; decide) rfl fun w0 N0 => ?_
 unfold ic28
 refine za7 (za0 rfl (zcu rfl rfl (za3 rfl (za3 rfl (za4 (za5 ?_))))))
 refine zdy [] [(0, 0, cX (.nd op ix args))] [(1, .int .i64 n), (2, .vptr (cX (.nd op ix args)))] rfl (.cons rfl rfl .nil) .nil (.cons rfl (.same rfl) (.cons rfl (.fptr rfl rfl) .nil)) ?_
 repeat (first | refine za7 ?_ | refine za0 rfl ?_ | refine za3 rfl ?_ | refine zan rfl rfl rfl rfl ?_)
 refine zaq rfl rfl p32 (fun h => Bool.noConfusion (show false = true from h)) ?_
 repeat (first | refine za7 ?_ | refine za0 rfl ?_ | refine za4 ?_ | refine za5 ?_ | refine za3 rfl ?_)
 refine zam rfl rfl rfl (fun h => ?_) fun h => ?_
 ·rw [if_neg (by simpa using h)]
  repeat (first | refine za7 ?_ | refine za0 rfl ?_ | refine za4 ?_ | refine za5 ?_ | refine zbl rfl ?_ | refine zae ?_ | refine za8 ?_ | refine za3 rfl ?_)
  exact zac ⟨.inr rfl, _, rfl, rfl⟩
 have h : e = 0 := by simpa using h
 rw [if_pos h]
 have hl := hlt h
 repeat (first | refine za7 ?_ | refine za0 rfl ?_ | refine za4 ?_ | refine za5 ?_ | refine zaf ?_ | refine zc0 rfl ?_ | refine zan rfl rfl rfl rfl ?_ | refine zca ?_)
 refine zaq rfl rfl (zfz (.nd op ix args)) (fun h => Bool.noConfusion (show false = true from h)) ?_
 refine za4 (za5 ?_)
 refine zdy [(some (0, 1), [.ms 1 0 1 0 0 none]), (none, [])] [] [(2, .vptr (cX (.nd op ix args))), (7, .mptr 0 0 0), (17, .fn 90 [] [.vptr (cX (.nd op ix args))])] rfl .nil (.cons rfl (.cons (.grow rfl) .nil) (.new .nil)) (.cons rfl (.same rfl) (.cons rfl (.mptr rfl) (.cons rfl (.same rfl) .nil))) ?_
 refine zat ?_
 have hsz := (zc9 _).1 hl
 refine zmv (.inl rfl) rfl fun ha hb => (rangeB (local28 _) (B := 256) (m := fun s : List Int => (s.length : Int)) stepV_m (fun s d x H hm h => yield28 _ rfl ha hb s d x H hm h) (.nd op ix args) ⟨_, _, _⟩ [] hs ⟨Nat.le_refl _, rfl, rfl, 0, rfl, rfl⟩ (by show ((0 : Nat) : Int) + _ ≤ _; omega)).mono fun v H2 hF => ?_
 obtain ⟨hK, hF⟩ := hF
 rw [walkV _ 1 [] (by decide) hsz.2, List.nil_append] at hF
 obtain ⟨nx, h3, h2, sp, h0, h1⟩ := hF
 refine ⟨_, _, .normal, _, _, _, _, _, _, h3, by simp, rfl, fun z hz => ?_, ?_⟩
 ·obtain rfl := List.mem_singleton.1 hz
  rw [za9, if_neg (by decide)]; exact h2
 have hcl := znb (.nd op ix args)
 have hcl : (zoq (.nd op ix args)).length ≤ 256 := by have := hsz.1; omega
 unfold varL
 generalize zoq (.nd op ix args) = L at *
 refine zcv (za5 ?_)
 by_cases hL : L = []
 ·subst hL
  refine zt4 [(some (0, 0), [.vs []])] [(1, sp, [])] [(2, .vptr (cX (.nd op ix args))), (7, .mptr 0 0 0)] rfl (.cons (by show Am.look 1 (zbc 3 H2.heap) = _; rw [za9, if_neg (by decide)]; exact h1) rfl .nil) (.cons (by show Am.look 0 (zbc 3 H2.heap) = _; rw [za9, if_neg (by decide)]; exact h0) (.cons (.fms (cs := []) (xs := []) (by simp [fzl]) rfl (fun y hy => by cases hy) ⟨[], rfl⟩) .nil) .nil) (.cons rfl (.same rfl) (.cons rfl (.mptr rfl) .nil)) ?_
  repeat (first | refine za7 ?_ | refine za0 rfl ?_ | refine zaj rfl rfl ?_)
  refine zaq rfl rfl ints64 (fun h => Bool.noConfusion (show false = true from h)) ?_ (fun m hm => by obtain rfl := List.mem_singleton.1 hm; rfl)
  repeat (first | refine za7 ?_ | refine za0 rfl ?_ | refine za4 ?_ | refine za5 ?_ | refine zaj rfl rfl ?_)
  refine zaq rfl rfl zqj (fun h => Bool.noConfusion (show false = true from h)) ?_ (fun m hm => by obtain rfl := List.mem_singleton.1 hm; rfl)
  repeat (first | refine za4 ?_ | refine za5 ?_ | refine zae ?_ | refine za3 rfl ?_)
  have e0 : cps (srt []) = [] := List.length_eq_zero_iff.1 (by have h1 := zql (srt []); have h2 := zhx []; rw [h2] at h1; exact Nat.le_zero.1 h1)
  exact zac ⟨.inr rfl, _, rfl, by rw [e0]; rfl⟩
 ·refine zt4 [(some (0, 0), [.ms 1 0 1 0 L.length none]), (some (1, sp), L.map (AV.int .i64))] [] [(2, .vptr (cX (.nd op ix args))), (7, .mptr 0 0 0)] rfl .nil (.cons (by show Am.look 0 (zbc 3 H2.heap) = _; rw [za9, if_neg (by decide)]; exact h0) (.cons (.ms rfl) .nil) (.cons (by show Am.look 1 (zbc 3 H2.heap) = _; rw [za9, if_neg (by decide)]; exact h1) (.keep (zic _)) .nil)) (.cons rfl (.same rfl) (.cons rfl (.mptr rfl) .nil)) ?_
  have hne2 : srt L ≠ [] := fun e => hL (by have := zhx L; rw [e] at this; exact List.length_eq_zero_iff.1 this.symm)
  repeat (first | refine za7 ?_ | refine za0 rfl ?_ | refine zaj rfl rfl ?_)
  refine o_ct _ rfl rfl (zf0 (FT_sort (cap := none) (zs := L) ent64 sorts64 hL (by omega) rfl)) (fun v H hF => ?_) fun v H hF => ?_
  ·obtain ⟨rfl, rfl⟩ := hF
   intro m hm
   obtain rfl := List.mem_singleton.1 hm
   rfl
  obtain ⟨rfl, rfl⟩ := hF
  repeat (first | refine za7 ?_ | refine za0 rfl ?_ | refine za4 ?_ | refine za5 ?_ | refine zaj rfl rfl ?_)
  refine o_ct _ rfl (by rw [← zhx L]; rfl) (zf0 (zoi (cap := none) (zs := srt L) (sp := 0) (id := 1) ent65 cpts65 hne2 (by rw [zhx]; omega) rfl)) (fun v H hF => ?_) fun v H hF => ?_
  ·obtain ⟨rfl, rfl⟩ := hF
   intro m hm
   obtain rfl := List.mem_singleton.1 hm
   rfl
  obtain ⟨rfl, rfl⟩ := hF
  repeat (first | refine za4 ?_ | refine za5 ?_ | refine zae ?_ | refine za3 rfl ?_)
  exact zac ⟨.inr rfl, _, rfl, congrArg AV.tup (pair_eq (zlk (J := (List.replicate ((srt L).length - (cps (srt L)).length) 0).map (AV.int .i64)) (cps (srt L)) rfl (by rw [← List.map_append]; rfl)) rfl)⟩
end Go.Proofs.Ytmnkjofaodbokaa
namespace Go.Proofs.Ytmnkjofaodbokaa
open Go Go.Am
theorem asc_eq : ∀ {a b : List Int}, a.Pairwise (· < ·) → b.Pairwise (· < ·) → (∀ x, x ∈ a ↔ x ∈ b) → a = b
 | [], [], _, _, _ => rfl
 | [], y :: b, _, _, h => absurd ((h y).2 (List.mem_cons_self ..)) List.not_mem_nil
 | x :: a, [], _, _, h => absurd ((h x).1 (List.mem_cons_self ..)) List.not_mem_nil
 | x :: a, y :: b, ha, hb, h => by
  obtain ⟨a1, a2⟩ := List.pairwise_cons.1 ha
  obtain ⟨b1, b2⟩ := List.pairwise_cons.1 hb
  have hxy : x = y := by
   have h1 := (h x).1 (List.mem_cons_self ..)
   have h2 := (h y).2 (List.mem_cons_self ..)
   rcases List.mem_cons.1 h1 with e | h1
   ·exact e
   ·rcases List.mem_cons.1 h2 with e | h2
    ·exact e.symm
    ·have := a1 y h2
     have := b1 x h1
     omega
  subst hxy
  rw [asc_eq a2 b2 fun z => ?_]
  constructor
  ·intro hz
   rcases List.mem_cons.1 ((h z).1 (List.mem_cons_of_mem _ hz)) with e | hz2
   ·have := a1 z hz; omega
   ·exact hz2
  ·intro hz
   rcases List.mem_cons.1 ((h z).2 (List.mem_cons_of_mem _ hz)) with e | hz2
   ·have := b1 z hz; omega
   ·exact hz2
theorem zj7 : ∀ {l : List Int} {p z : Int}, z ∈ p :: zne p l ↔ z ∈ p :: l
 | [], _, _ => Iff.rfl
 | y :: l, p, z => by
  rw [zne]
  split
  ·rename_i e
   rw [zj7 (l := l), List.mem_cons, List.mem_cons, List.mem_cons, e]
   constructor
   ·rintro (h | h)
    ·exact .inl h
    ·exact .inr (.inr h)
   ·rintro (h | h | h)
    ·exact .inl h
    ·exact .inl h
    ·exact .inr h
  ·have := zj7 (l := l) (p := y) (z := z)
   rw [List.mem_cons, this, List.mem_cons, List.mem_cons, List.mem_cons]
theorem zj6 : ∀ {l : List Int} {p : Int}, (p :: l).Pairwise (· ≤ ·) → (p :: zne p l).Pairwise (· < ·)
 | [], _, _ => List.pairwise_singleton ..
 | y :: l, p, h => by
  obtain ⟨h1, h2⟩ := List.pairwise_cons.1 h
  rw [zne]
  split
  ·rename_i e
   subst e
   exact zj6 h2
  ·rename_i e
   have ih := zj6 h2
   rw [List.pairwise_cons]
   refine ⟨fun z hz => ?_, ih⟩
   have hy := h1 y (List.mem_cons_self ..)
   rcases List.mem_cons.1 hz with rfl | hz2
   ·omega
   ·have := (List.pairwise_cons.1 ih).1 z hz2
    omega
theorem cpt_asc {l : List Int} (h : l.Pairwise (· ≤ ·)) : (cpt l).Pairwise (· < ·) := by
 cases l with
 | nil => exact List.Pairwise.nil
 | cons x l => exact zj6 h
theorem cpt_mem {l : List Int} {z : Int} : z ∈ cpt l ↔ z ∈ l := by
 cases l with
 | nil => exact Iff.rfl
 | cons x l => exact zj7
mutual
theorem zlx {n : Int} : ∀ x : Ex, nds n x = 0 → ∀ v, v ∈ zoq x ↔ zmg v x = true
 | .nd op ix args => fun h v => by
  obtain ⟨h1, h2⟩ := znu h
  rw [zoq, zmg, List.mem_append]
  by_cases ho : op = 1
  ·rw [if_pos ho, if_pos ho]
   have hk := znw h1
   have ha : args = [] := List.length_eq_zero_iff.1 (by
    have := hk.2.2.2.1
    unfold zb6 at this
    rw [if_neg (by omega), if_neg (by omega)] at this
    omega)
   subst ha
   rw [zkk, List.mem_singleton, decide_eq_true_eq]
   constructor
   ·rintro (e | e)
    ·exact e.symm
    ·cases e
   ·exact fun e => .inl e.symm
  ·rw [if_neg ho, if_neg ho]
   constructor
   ·rintro (e | e)
    ·cases e
    ·exact (zj4 args h2 v).1 e
   ·exact fun e => .inr ((zj4 args h2 v).2 e)
theorem zj4 {n : Int} : ∀ l : List Ex, (∀ y ∈ l, nds n y = 0) → ∀ v, v ∈ zkk l ↔ zry v l = true
 | [] => fun _ v => by rw [zkk, zry]; simp
 | y :: ys => fun h v => by
  rw [zkk, zry, List.mem_append, Bool.or_eq_true, zlx y (h y (List.mem_cons_self ..)) v, zj4 ys (fun z hz => h z (List.mem_cons_of_mem _ hz)) v]
end
mutual
theorem zqh {n : Int} : ∀ x : Ex, nds n x = 0 → ∀ v ∈ zoq x, 0 ≤ v ∧ v < n
 | .nd op ix args => fun h v hv => by
  obtain ⟨h1, h2⟩ := znu h
  rw [zoq, List.mem_append] at hv
  rcases hv with hv | hv
  ·split at hv
   ·rename_i ho
    obtain rfl := List.mem_singleton.1 hv
    have hk := znw h1
    have hm := hk.2.2.2.2.2
    unfold zb7 at hm
    rw [if_neg (by omega), if_pos ho] at hm
    exact ⟨hk.2.2.2.2.1, by omega⟩
   ·cases hv
  ·exact zna args h2 v hv
theorem zna {n : Int} : ∀ l : List Ex, (∀ y ∈ l, nds n y = 0) → ∀ v ∈ zkk l, 0 ≤ v ∧ v < n
 | [] => fun _ v hv => by rw [zkk] at hv; cases hv
 | y :: ys => fun h v hv => by
  rw [zkk, List.mem_append] at hv
  rcases hv with hv | hv
  ·exact zqh y (h y (List.mem_cons_self ..)) v hv
  ·exact zna ys (fun z hz => h z (List.mem_cons_of_mem _ hz)) v hv
end
theorem vars_eq {x : Ex} {n : Nat} (h : nds (n : Nat) x = 0) : varL x = zoe x n := by
 unfold varL
 rw [cps_eq]
 refine asc_eq (cpt_asc ?_) ?_ fun v => ?_
 ·have := List.pairwise_mergeSort (le := fun x y : Int => decide (x ≤ y)) (fun a b c h1 h2 => by rw [decide_eq_true_eq] at *; omega) (fun a b => by rw [Bool.or_eq_true, decide_eq_true_eq, decide_eq_true_eq]; omega) (zoq x)
  exact this.imp fun h => of_decide_eq_true h
 ·unfold zoe
  rw [List.pairwise_map]
  refine List.Pairwise.imp (R := fun a b : Nat => a < b) (fun h => by omega) (List.Pairwise.filter _ List.pairwise_lt_range)
 ·rw [cpt_mem]
  unfold srt
  rw [List.mem_mergeSort]
  unfold zoe
  rw [List.mem_map]
  constructor
  ·intro hv
   obtain ⟨b1, b2⟩ := zqh x h v hv
   obtain ⟨u, rfl⟩ := Int.eq_ofNat_of_zero_le b1
   exact ⟨u, List.mem_filter.2 ⟨List.mem_range.2 (by omega), (zlx x h _).1 hv⟩, rfl⟩
  ·rintro ⟨u, hu, rfl⟩
   exact (zlx x h _).2 (List.mem_filter.1 hu).2
theorem zsx (x : Ex) (n : Int) : varsP x n = zpb x n := by
 unfold varsP zpb
 by_cases h : zc8 x n = 0
 ·rw [if_pos h, if_pos h]
  have hn : 0 ≤ n := by
   unfold zc8 at h
   split at h <;> omega
  obtain ⟨m, rfl⟩ := Int.eq_ofNat_of_zero_le hn
  rw [vars_eq (nds_of h), Int.toNat_natCast]
 ·rw [if_neg h, if_neg h]
end Go.Proofs.Ytmnkjofaodbokaa
namespace Go.Proofs.Ytmnkjofaodbokaa
open Go Go.Am
-- pneumatic/pneumaticlaw05.BoolexpChecks
def ic8 : IC := .seq (.region [⟨(some 2), .box (.t 0), none⟩,
  ⟨(some 4), .mov (.c (.bool false)), none⟩] none)
 (.seq (.seq (.region [⟨(some 15), .load (some 3) (.t 2), none⟩,
  ⟨(some 16), .bslice 3 1 [.int .i64 0, .int .i64 0, .nils] [(0, 3, (.t 15))], none⟩,
  ⟨(some 17), .call (.c (.fn 17 [] [])) [(.t 16)], none⟩,
  ⟨(some 18), .un .not (.t 17), none⟩] none)
 (.cond (.t 18) (.seq (.region [⟨(some 19), .call (.c (.fn 13 [] [])) [], none⟩,
  ⟨(some 4), .mov (.t 19), none⟩] none)
 (.ret))
 (.skip)))
 (.seq (.region [⟨(some 21), .load (some 3) (.t 2), none⟩,
  ⟨(some 22), .call (.c (.fn 27 [] [])) [(.t 21)], none⟩,
  ⟨(some 20), .mov (.t 22), none⟩,
  ⟨(some 23), .extract (.t 20) 0, none⟩,
  ⟨(some 24), .extract (.t 20) 1, none⟩,
  ⟨(some 25), .extract (.t 20) 2, none⟩,
  ⟨(some 5), .mov (.t 23), none⟩,
  ⟨(some 6), .mov (.t 24), none⟩,
  ⟨(some 7), .mov (.t 25), none⟩] none)
 (.seq (.region [⟨(some 27), .load (some 3) (.t 2), none⟩,
  ⟨(some 28), .call (.c (.fn 30 [] [])) [(.t 27)], none⟩,
  ⟨(some 26), .mov (.t 28), none⟩,
  ⟨(some 29), .extract (.t 26) 0, none⟩,
  ⟨(some 30), .extract (.t 26) 1, none⟩,
  ⟨(some 31), .extract (.t 26) 2, none⟩,
  ⟨(some 8), .mov (.t 29), none⟩,
  ⟨(some 9), .mov (.t 30), none⟩,
  ⟨(some 10), .mov (.t 31), none⟩] none)
 (.seq (.region [⟨(some 33), .load (some 3) (.t 2), none⟩,
  ⟨(some 34), .mov (.t 1), none⟩,
  ⟨(some 35), .call (.c (.fn 28 [] [])) [(.t 33), (.t 34)], none⟩,
  ⟨(some 32), .mov (.t 35), none⟩,
  ⟨(some 36), .extract (.t 32) 0, none⟩,
  ⟨(some 37), .extract (.t 32) 1, none⟩,
  ⟨(some 11), .mov (.t 36), none⟩,
  ⟨(some 12), .mov (.t 37), none⟩] none)
 (.seq (.region [⟨(some 39), .load (some 3) (.t 2), none⟩,
  ⟨(some 40), .mov (.t 1), none⟩,
  ⟨(some 41), .call (.c (.fn 31 [] [])) [(.t 39), (.t 40)], none⟩,
  ⟨(some 38), .mov (.t 41), none⟩,
  ⟨(some 42), .extract (.t 38) 0, none⟩,
  ⟨(some 43), .extract (.t 38) 1, none⟩,
  ⟨(some 13), .mov (.t 42), none⟩,
  ⟨(some 14), .mov (.t 43), none⟩] none)
 (.seq (.region [⟨(some 44), .call (.c (.fn 13 [] [])) [], none⟩,
  ⟨(some 45), .mov (.t 44), none⟩,
  ⟨(some 46), .load (some 3) (.t 2), some (45, true)⟩,
  ⟨(some 47), .mov (.t 1), some (45, true)⟩,
  ⟨(some 48), .call (.c (.fn 32 [] [])) [(.t 46), (.t 47)], some (45, true)⟩,
  ⟨(some 49), .load (some 3) (.t 2), some (45, true)⟩,
  ⟨(some 50), .mov (.t 1), some (45, true)⟩,
  ⟨(some 51), .call (.c (.fn 33 [] [])) [(.t 49), (.t 50)], some (45, true)⟩,
  ⟨(some 52), .bin .eql (.t 48) (.t 51), some (45, true)⟩,
  ⟨(some 53), .pick (.t 45) (.t 52) (.c (.bool false)), none⟩,
  ⟨(some 54), .mov (.t 53), none⟩,
  ⟨(some 55), .mov (.t 5), some (54, true)⟩,
  ⟨(some 56), .mov (.t 8), some (54, true)⟩,
  ⟨(some 57), .bin .eql (.t 55) (.t 56), some (54, true)⟩,
  ⟨(some 58), .pick (.t 54) (.t 57) (.c (.bool false)), none⟩,
  ⟨(some 59), .mov (.t 58), none⟩,
  ⟨(some 60), .mov (.t 6), some (59, true)⟩,
  ⟨(some 61), .mov (.t 9), some (59, true)⟩,
  ⟨(some 62), .bin .eql (.t 60) (.t 61), some (59, true)⟩,
  ⟨(some 63), .pick (.t 59) (.t 62) (.c (.bool false)), none⟩,
  ⟨(some 64), .mov (.t 63), none⟩,
  ⟨(some 65), .mov (.t 7), some (64, true)⟩,
  ⟨(some 66), .mov (.t 10), some (64, true)⟩,
  ⟨(some 67), .bin .eql (.t 65) (.t 66), some (64, true)⟩,
  ⟨(some 68), .pick (.t 64) (.t 67) (.c (.bool false)), none⟩,
  ⟨(some 69), .mov (.t 68), none⟩,
  ⟨(some 70), .mov (.t 11), some (69, true)⟩,
  ⟨(some 71), .mov (.t 13), some (69, true)⟩,
  ⟨(some 72), .call (.c (.fn 34 [] [])) [(.t 70), (.t 71)], some (69, true)⟩,
  ⟨(some 73), .pick (.t 69) (.t 72) (.c (.bool false)), none⟩,
  ⟨(some 74), .mov (.t 73), none⟩,
  ⟨(some 75), .mov (.t 12), some (74, true)⟩,
  ⟨(some 76), .mov (.t 14), some (74, true)⟩,
  ⟨(some 77), .bin .eql (.t 75) (.t 76), some (74, true)⟩,
  ⟨(some 78), .pick (.t 74) (.t 77) (.c (.bool false)), none⟩,
  ⟨(some 4), .mov (.t 78), none⟩] (some [[], [0, 0], [1], [1], [2, 3, 1, 1], [1], [1], [5, 6, 4, 1], [4, 7, 1], [1, 8], [9, 7], [10], [10], [11, 12, 10], [10, 13], [14, 10], [15], [15], [16, 17, 15], [15, 18], [19, 15], [20], [20], [21, 22, 20], [20, 23], [24, 20], [25], [25], [26, 27, 25, 25], [25, 28], [29, 28], [30], [30], [31, 32, 30], [30, 33], [34, 30, 0, 1, 2, 3, 4, 5, 6, 7, 8, 9, 10, 11, 12, 13, 14, 15, 16, 17, 18, 19, 20, 21, 22, 23, 24, 25, 26, 27, 28, 29, 30, 31, 32, 33, 34]]))
 (.ret)))))))
theorem fn8 : env0.fn 8 = some ⟨79, ic8, [.t 4]⟩ := by kernel_rfl
set_option maxRecDepth 100000 in
set_option maxHeartbeats 8000000 in
theorem law8 (x : Ex) (hs : Slim x) (n : Int) : PF Try.prog 8 [.agg (cX x), .int .i64 n] (.bool true) := by
 have p17 := few17 [x] (show (1 : Nat) < 9223372036854775807 by decide) (fun y hy => by obtain rfl := List.mem_singleton.1 hy; exact hs)
 rw [List.all_cons, List.all_nil, Bool.and_true] at p17
 have p27 := size27 x hs
 have p30 := size30 x hs
 have p28 := zmr x hs n
 have p31 := zms x hs n
 have p32 := zlv x hs n
 have p33 := zqc x hs n
 rw [zeb] at p32
 rw [zsx] at p28
 obtain ⟨a, b, c, hsv⟩ : ∃ a b c : Int, zp5 x = .tup [.int .i64 a, .int .i64 b, .int .i64 c] := by
  unfold zp5
  split
  ·exact ⟨_, _, _, rfl⟩
  ·exact ⟨_, _, _, rfl⟩
 obtain ⟨u, e2, hvv, hul⟩ : ∃ (u : List Int) (e2 : Int), zpb x n = .tup [vsI u, .int .i64 e2] ∧ u.length ≤ 256 := by
  unfold zpb
  split
  ·rename_i h
   have hn : n ≤ 256 := by
    unfold zc8 at h
    split at h <;> omega
   have := zof x n.toNat
   exact ⟨_, _, rfl, by omega⟩
  ·exact ⟨[], _, rfl, by decide⟩
 rw [hsv] at p27 p30
 rw [hvv] at p28 p31
 have p34 := equal34 u (by omega)
 generalize zlo x = fx at *
 generalize zc8 x n = e at *
 obtain ⟨op, ix, args⟩ := x
 refine zb2 env0_ok fn8 [(0, .agg (cX (.nd op ix args))), (1, .int .i64 n)] (by show 2 ≤ 79; decide) rfl fun w0 N0 => ?_
 unfold ic8
 refine za7 (za0 rfl (zcu rfl rfl (za3 rfl (za4 (za5 ?_)))))
 refine zdy [] [(0, 0, cX (.nd op ix args))] [(1, .int .i64 n), (2, .vptr (cX (.nd op ix args)))] rfl (.cons rfl rfl .nil) .nil (.cons rfl (.same rfl) (.cons rfl (.fptr rfl rfl) .nil)) ?_
 repeat (first | refine za7 ?_ | refine za0 rfl ?_ | refine zan rfl rfl rfl rfl ?_ | refine zju rfl rfl ?_)
 refine zaq rfl rfl p17 (fun _ => rfl) ?_
 cases fx with
 | false =>
  repeat (first | refine za7 ?_ | refine za0 rfl ?_ | refine za4 ?_ | refine za5 ?_ | refine zbl rfl ?_ | refine zi3 rfl rfl ?_)
  refine zaq rfl rfl zq0 (fun h => Bool.noConfusion (show false = true from h)) ?_
  repeat (first | refine za4 ?_ | refine za5 ?_ | refine zae ?_ | refine za8 ?_ | refine za3 rfl ?_)
  exact zac ⟨.inr rfl, _, rfl, rfl⟩
 | true =>
  refine zi3 rfl rfl (za4 (za5 (zc0 rfl (zaf (za5 ?_)))))
  refine zdy [] [] [(1, .int .i64 n), (2, .vptr (cX (.nd op ix args)))] rfl .nil .nil (.cons rfl (.same rfl) (.cons rfl (.same rfl) .nil)) ?_
  repeat (first | refine za7 ?_ | refine za0 rfl ?_ | refine zan rfl rfl rfl rfl ?_)
  refine zaq rfl rfl p27 (fun h => Bool.noConfusion (show false = true from h)) ?_
  repeat (first | refine za7 ?_ | refine za0 rfl ?_ | refine za4 ?_ | refine za5 ?_ | refine za3 rfl ?_ | refine zan rfl rfl rfl rfl ?_ | refine zco rfl rfl ?_)
  refine zaq rfl rfl p30 (fun h => Bool.noConfusion (show false = true from h)) ?_
  repeat (first | refine za7 ?_ | refine za0 rfl ?_ | refine za4 ?_ | refine za5 ?_ | refine za3 rfl ?_ | refine zan rfl rfl rfl rfl ?_ | refine zco rfl rfl ?_)
  refine zaq rfl rfl p28 (fun h => Bool.noConfusion (show false = true from h)) ?_
  repeat (first | refine za7 ?_ | refine za0 rfl ?_ | refine za4 ?_ | refine za5 ?_ | refine za3 rfl ?_ | refine zan rfl rfl rfl rfl ?_ | refine zco rfl rfl ?_)
  refine zaq rfl rfl p31 (fun h => Bool.noConfusion (show false = true from h)) ?_
  repeat (first | refine za7 ?_ | refine za4 ?_ | refine za5 ?_ | refine za3 rfl ?_ | refine zco rfl rfl ?_)
  refine zk9 env0_ok [(13, [], .bool true), (32, [.agg (cX (.nd op ix args)), .int .i64 n], .int .i64 e), (33, [.agg (cX (.nd op ix args)), .int .i64 n], .int .i64 e), (34, [vsI u, vsI u], .bool true)] (fun x hx => by
   simp only [List.mem_cons, List.not_mem_nil, or_false] at hx
   rcases hx with rfl | rfl | rfl | rfl
   ·exact zq0
   ·exact p32
   ·exact p33
   ·exact p34) (fun f => Nat.beq f 13 || Nat.beq f 32 || Nat.beq f 33 || Nat.beq f 34) rfl rfl rfl ?_
  refine zaq rfl rfl zcg (fun h => Bool.noConfusion (show false = true from h)) ?_
  repeat (first | refine zcb rfl ?_ | refine za3 rfl ?_ | refine zan rfl rfl rfl rfl ?_)
  refine zaq rfl rfl (zc6 (by decide) zcg) (fun h => Bool.noConfusion (show false = true from h)) ?_
  repeat (first | refine zcb rfl ?_ | refine za3 rfl ?_ | refine zan rfl rfl rfl rfl ?_)
  refine zaq rfl rfl (zc6 (by decide) (zc6 (by decide) zcg)) (fun h => Bool.noConfusion (show false = true from h)) ?_
  repeat (first | refine zcb rfl ?_)
  refine zdd rfl rfl (by show some (AV.bool (e == e)) = _; rw [beq_self_eq_true]) ?_
  repeat (first | refine zcb rfl ?_ | refine za3 rfl ?_ | refine zah rfl rfl ?_)
  refine zdd rfl rfl (by show some (AV.bool (a == a)) = _; rw [beq_self_eq_true]) ?_
  repeat (first | refine zcb rfl ?_ | refine za3 rfl ?_ | refine zah rfl rfl ?_)
  refine zdd rfl rfl (by show some (AV.bool (b == b)) = _; rw [beq_self_eq_true]) ?_
  repeat (first | refine zcb rfl ?_ | refine za3 rfl ?_ | refine zah rfl rfl ?_)
  refine zdd rfl rfl (by show some (AV.bool (c == c)) = _; rw [beq_self_eq_true]) ?_
  repeat (first | refine zcb rfl ?_ | refine za3 rfl ?_ | refine zah rfl rfl ?_)
  refine zaq rfl rfl (zc6 (by decide) (zc6 (by decide) (zc6 (by decide) zcg))) (fun h => Bool.noConfusion (show false = true from h)) ?_
  repeat (first | refine zcb rfl ?_ | refine za3 rfl ?_ | refine zah rfl rfl ?_)
  refine zdd rfl rfl (by show some (AV.bool (e2 == e2)) = _; rw [beq_self_eq_true]) ?_
  repeat (first | refine za4 ?_ | refine za5 ?_ | refine zae ?_ | refine za3 rfl ?_ | refine zah rfl rfl ?_)
  exact zac ⟨.inr rfl, _, rfl, rfl⟩
end Go.Proofs.Ytmnkjofaodbokaa
namespace Go.Proofs.Ytmnkjofaodbokaa
open Go Go.Am Go.ChangeShapes Go.WideShapes Go.ChangeAt Go.RowKit
theorem own : ownKnob Try.prog.godebug = none := by kernel_rfl
theorem gok {W : World} : GOk (fun _ => True) W := fun _ hx => absurd hx List.not_mem_nil
theorem solid : zpk Try.prog Try.prog.types.size := solid_of (by kernel_rfl)
end Go.Proofs.Ytmnkjofaodbokaa
namespace Go.Proofs.Ytmnkjofaodbokaa
open Go Go.Am Go.ChangeShapes Go.WideShapes Go.ChangeAt Go.RowKit Go.Deep
section
variable {H : Type} {enc : TypeId × Value → H} {w : World} {base : Nat} {spare : Nat → Bool} {held : Bool}
theorem rdN : Rd enc Try.prog w base spare held 3 (cInt .i64) := zs8 Try.underlying3 (by kernel_rfl)
theorem rdT : Rd enc Try.prog w base spare held 24 fun d => cX (exD d) :=
 rd_tree Try.underlying24 rfl Try.underlying3 (by kernel_rfl) Try.underlying22 (by kernel_rfl) (by rw [show Try.prog.cellsOf 24 = 3 from by kernel_rfl]; decide) (by kernel_rfl)
theorem slimX {n : Nat} {cs : List Value} {d : DataW H} {p : List MemPlace} (h : DataW.trod enc Try.prog w base spare held n 24 cs = some (d, p)) : Slim (exD d) :=
 zsm Try.underlying24 rfl Try.underlying22 _ d (Nat.le_refl _) _ _ _ h
end
end Go.Proofs.Ytmnkjofaodbokaa
