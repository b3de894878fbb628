/-
  PLACES OF A GUARD: guard.Places.
-/
import Derived.Test.YtoiblgbaeglgoaaWPA
import Derived.Test.YtoiblgbaeglgoaaWCA
namespace Go.Proofs.Ytoiblgbaeglgoaa
open Go Go.Am
-- pneumatic/guard.combinations
def ic82 : IC := .seq (.region [⟨(some 1), .box (.t 0), none⟩,
  ⟨(some 2), .mov (.c (.nilf)), none⟩] none)
 (.seq (.region [⟨(some 3), .mkfn 130 [] [(.t 1)], none⟩,
  ⟨(some 2), .mov (.t 3), none⟩] none)
 (.ret))
theorem fn82 : env0.fn 82 = some ⟨4, ic82, [.t 2]⟩ := by kernel_rfl
theorem comb52 (cs : List (List Int)) : PF Try.prog 82 [css cs] (.fn 130 [] [.vptr [css cs]]) := by
 refine zb1 env0_ok fn82 [(0, css cs)] (by show 1 ≤ 4; decide) rfl fun w0 N0 => ?_
 unfold ic82
 repeat (first | refine za5 ?_ | refine za0 rfl ?_ | refine za4 ?_ | refine za2 ?_ | refine zaf ?_ | refine za3 rfl ?_ | refine zcq rfl rfl ?_ | refine zf4 rfl rfl ?_)
 exact zad ⟨.inr rfl, _, rfl, rfl⟩
noncomputable def zmr : Code := match env0.fn 27 with
 | some i => ((zc4 i.ic)[0]?.getD (.skip, .skip)).1
 | none => .skip
noncomputable def zmt : Code := match env0.fn 27 with
 | some i => ((zc4 i.ic)[0]?.getD (.skip, .skip)).2
 | none => .skip
def zo1 : IC := .region [⟨(some 8), .mov (.t 20), none⟩] none
def zuy : IC := .block 1 (.seq (.region [⟨(some 21), .faddr 0 (.t 2), none⟩,
  ⟨(some 22), .load none (.t 21), none⟩,
  ⟨(some 23), .mov (.t 8), none⟩,
  ⟨(some 24), .call (.c (.fn 83 [] [])) [(.t 22), (.t 23)], none⟩,
  ⟨(some 25), .len false (.t 24), none⟩,
  ⟨(some 26), .bin .eql (.t 25) (.c (.int .i64 0)), none⟩] none)
 (.cond (.t 26) (.region [⟨(some 27), .load none (.t 7), none⟩,
  ⟨(some 28), .mov (.t 8), none⟩,
  ⟨(some 29), .bslice 1 1 [.nils] [(0, 1, (.t 28))], none⟩,
  ⟨(some 30), .append 1 24 [.nils] (.t 27) (.t 29), none⟩,
  ⟨none, .store 1 (.t 7) (.t 30), none⟩] none)
 (.skip)))
-- pneumatic/guard.Places
noncomputable def ic27 : IC := .seq (.region [⟨(some 2), .box (.t 0), none⟩,
  ⟨(some 4), .mov (.c (.nils)), none⟩,
  ⟨(some 5), .mov (.c (.int .i64 0)), none⟩] none)
 (.seq (.seq (.region [⟨(some 9), .load (some 1) (.t 2), none⟩,
  ⟨(some 10), .mov (.t 1), none⟩,
  ⟨(some 11), .call (.c (.fn 80 [] [])) [(.t 9), (.t 10)], none⟩,
  ⟨(some 6), .mov (.t 11), none⟩] none)
 (.seq (.region [⟨(some 12), .mov (.t 6), none⟩,
  ⟨(some 13), .bin .neq (.t 12) (.c (.int .i64 0)), none⟩] none)
 (.cond (.t 13) (.seq (.region [⟨(some 14), .mov (.t 6), none⟩,
  ⟨(some 4), .mov (.c (.nils)), none⟩,
  ⟨(some 5), .mov (.t 14), none⟩] none)
 (.ret))
 (.skip))))
 (.seq (.region [⟨(some 7), .alloc [.nils], none⟩] none)
 (.seq (.seq (.region [⟨(some 15), .bslice 1 2 [.int .i64 0, .int .i64 0] [(0, 1, (.c (.int .i64 0))), (1, 1, (.c (.int .i64 2)))], none⟩,
  ⟨(some 16), .bslice 1 1 [.nils] [(0, 1, (.t 15))], none⟩,
  ⟨(some 17), .mov (.t 1), none⟩,
  ⟨(some 18), .call (.c (.fn 89 [] [])) [(.t 16), (.t 17)], none⟩,
  ⟨(some 19), .call (.c (.fn 82 [] [])) [(.t 18)], none⟩] none)
 (.block 0 (.rangeFunc (.t 19) [20] zmr zmt zo1 zuy)))
 (.seq (.region [⟨(some 31), .load none (.t 7), none⟩,
  ⟨(some 4), .mov (.t 31), none⟩,
  ⟨(some 5), .mov (.c (.int .i64 0)), none⟩] none)
 (.ret)))))
theorem fn27 : env0.fn 27 = some ⟨32, ic27, [.t 4, .t 5]⟩ := by kernel_rfl
def okL (l : List Ex) (s : List (List Int)) : List (List Int) := s.filter fun p => (zek l p).isEmpty
def stepA (s : List (List Int)) (p : List Int) : List (List Int) ⊕ Unit := .inl (s ++ [p])
theorem zk9 : ∀ (C s : List (List Int)), zj7 stepA C s = .inl (s ++ C)
 | [], s => by rw [zj7, List.append_nil]
 | c :: C, s => by
  rw [zj7]
  simp only [stepA]
  rw [zk9 C]
  simp
theorem zio {m k : Nat} : ∀ (C s : List (List Int)), (∀ p ∈ C, p.length = m) → s.length + C.length ≤ k → Along stepA (fun s p => s.length < k ∧ p.length = m) C s
 | [], _, _, _ => trivial
 | c :: C, s, h, hk => by
  rw [List.length_cons] at hk
  refine ⟨⟨by omega, h c (List.mem_cons_self ..)⟩, fun s' hs => ?_⟩
  injection hs with hs
  subst hs
  exact zio C _ (fun p hp => h p (List.mem_cons_of_mem _ hp)) (by rw [List.length_append]; show s.length + 1 + _ ≤ _; omega)
structure I34 (l : List Ex) (ltm : List (Nat × AV)) (s : List (List Int)) (H : HS) : Prop where
 nx : 4 ≤ H.next
 h3 : Am.look 3 H.heap = some (2, .loop .ready none 32 (zd5 ltm) [20] zmr zmt (2, 1))
 h2 : Am.look 2 H.heap = some (1, .deferred)
 h0 : ∃ sp, Am.look 0 H.heap = some (0, .cells [.ms 1 sp 1 0 (okL l s).length none]) ∧ Am.look 1 H.heap = some (sp, .cells (zqu (okL l s)))
theorem local34 (l : List Ex) (ltm : List (Nat × AV)) : Local (fun i => i < 4) (I34 l ltm) :=
 ⟨fun s H h i hi => Nat.lt_of_lt_of_le hi h.nx, fun s H H' h hn hl =>
  ⟨Nat.le_trans h.nx hn, (hl 3 (by decide)).trans h.h3, (hl 2 (by decide)).trans h.h2, let ⟨sp, a, b⟩ := h.h0; ⟨sp, (hl 0 (by decide)).trans a, (hl 1 (by decide)).trans b⟩⟩⟩
def l34 (l : List Ex) (C : AV) : List (Nat × AV) := [(2, .vptr [.vs (cXs l)]), (7, .mptr 0 0 0), (19, C)]
set_option maxHeartbeats 2000000 in
theorem yield34 {w0 : World} {N0 : Nat} {l : List Ex} {n : Nat} (hsl : ∀ y ∈ l, Slim y) (hg : zc5 l n = 0) (C : AV) (ha : Com Try.prog zmr zo1) (hb : Com Try.prog zmt zuy) (s : List (List Int)) (p : List Int) (H : HS) (hp : s.length < 600000 ∧ p.length = n) (h : I34 l (l34 l C) s H) :
  CT Try.prog w0 N0 (.yield 3 2) [vsI p] H (zs7 (fun i => i < 4) (I34 l (l34 l C)) (fun (_ : Unit) _ => False) H (stepA s p)) := by
 obtain ⟨nx, h3, h2, sp, h0, h1⟩ := h
 have h53 := whichG hsl hg hp.2
 have hfl : (okL l s).length ≤ s.length := List.length_filter_le ..
 have hok : okL l (s ++ [p]) = okL l s ++ (if (zek l p).isEmpty then [p] else []) := by
  unfold okL
  rw [List.filter_append]
  simp [List.filter_cons]
 have hrl : (zqu (okL l s)).length = (okL l s).length := List.length_map ..
 refine zla (l0 := (20, vsI p) :: l34 l C) h3 ha hb rfl (by decide) rfl ?_
 unfold zo1
 repeat (first | refine za0 rfl ?_ | refine za4 ?_ | refine za3 rfl ?_)
 refine zad ⟨rfl, _, rfl, ?_⟩
 unfold zuy l34
 repeat (first | refine za5 ?_ | refine za0 rfl ?_ | refine zae ?_ | refine za3 rfl ?_ | refine zag rfl rfl ?_ | refine zfs rfl rfl rfl ?_)
 refine zas rfl rfl h53 (fun h => Bool.noConfusion (show false = true from h)) ?_
 repeat (first | refine zbk rfl rfl ?_)
 refine zak rfl rfl rfl (fun h => ?_) fun h => ?_
 ·rw [zmx] at h
  rw [if_pos h] at hok
  repeat (first | refine za0 rfl ?_ | refine za4 ?_ | refine za2 ?_ | refine zb6 rfl ?_)
  refine zd8 (sp := 0) rfl (by (repeat (first | rw [za1, if_pos rfl] | rw [za1, if_neg (by decide)] | rw [za9, if_neg (by decide)])); first | rfl | assumption) (by omega) rfl ?_
  refine za3 rfl (o_fsl [[vsI p]] rfl rfl rfl rfl ?_)
  refine zbd [[vsI p]] rfl rfl rfl (fun h => Nat.noConfusion h) rfl (by decide) (by (repeat (first | rw [za1, if_pos rfl] | rw [za1, if_neg (by decide)] | rw [za9, if_neg (by decide)])); first | rfl | assumption) (by rw [hrl, Nat.mul_one]) (by show _ + 1 ≤ _; omega) ?_
  refine zap (sp := 0) rfl rfl rfl rfl (by (repeat (first | rw [za1, if_pos rfl] | rw [za1, if_neg (by decide)] | rw [za9, if_neg (by decide)])); first | rfl | assumption) rfl rfl ?_
  repeat (first | refine za4 ?_ | refine zbe ?_)
  refine zad ⟨32, zd5 (l34 l C), [20], zmr, zmt, (2, 1), ?_, none, rfl, ⟨Nat.le_refl _, Nat.le_succ _, fun i hi _ => ?_⟩, rfl, ⟨nx, ?_, ?_, H.clk, ?_, ?_⟩⟩
  ·show Am.look 3 (zb4 0 _ (zb4 1 _ (zb4 3 _ H.heap))) = _
   exact (by (repeat (first | rw [za1, if_pos rfl] | rw [za1, if_neg (by decide)] | rw [za9, if_neg (by decide)])); first | rfl | assumption)
  ·show Am.look i (zb4 3 _ (zb4 0 _ (zb4 1 _ (zb4 3 _ H.heap)))) = _
   rw [za1, if_neg (by omega), za1, if_neg (by omega), za1, if_neg (by omega), za1, if_neg (by omega)]
  ·show Am.look 3 (zb4 3 _ _) = _
   rw [za1, if_pos rfl]; rfl
  ·show Am.look 2 (zb4 3 _ (zb4 0 _ (zb4 1 _ (zb4 3 _ H.heap)))) = _
   exact (by (repeat (first | rw [za1, if_pos rfl] | rw [za1, if_neg (by decide)] | rw [za9, if_neg (by decide)])); first | rfl | assumption)
  ·show Am.look 0 (zb4 3 _ (zb4 0 _ (zb4 1 _ (zb4 3 _ H.heap)))) = _
   rw [hok, List.length_append]
   exact (by (repeat (first | rw [za1, if_pos rfl] | rw [za1, if_neg (by decide)] | rw [za9, if_neg (by decide)])); first | rfl | assumption)
  ·show Am.look 1 (zb4 3 _ (zb4 0 _ (zb4 1 _ (zb4 3 _ H.heap)))) = _
   rw [hok, zv4]
   exact (by (repeat (first | rw [za1, if_pos rfl] | rw [za1, if_neg (by decide)] | rw [za9, if_neg (by decide)])); first | rfl | assumption)
 ·rw [zmx] at h
  rw [if_neg (by rw [h]; simp), List.append_nil] at hok
  repeat (first | refine za4 ?_ | refine za2 ?_ | refine zbe ?_ | refine zab ?_ | refine zbi rfl ?_)
  refine zad ⟨32, zd5 (l34 l C), [20], zmr, zmt, (2, 1), ?_, none, rfl, ⟨Nat.le_refl _, Nat.le_refl _, fun i hi _ => ?_⟩, rfl, ⟨nx, ?_, ?_, sp, ?_, ?_⟩⟩
  ·show Am.look 3 (zb4 3 _ H.heap) = _
   exact (by (repeat (first | rw [za1, if_pos rfl] | rw [za1, if_neg (by decide)] | rw [za9, if_neg (by decide)])); first | rfl | assumption)
  ·show Am.look i (zb4 3 _ (zb4 3 _ H.heap)) = _
   rw [za1, if_neg (by omega), za1, if_neg (by omega)]
  ·show Am.look 3 (zb4 3 _ _) = _
   rw [za1, if_pos rfl]; rfl
  ·show Am.look 2 (zb4 3 _ (zb4 3 _ H.heap)) = _
   exact (by (repeat (first | rw [za1, if_pos rfl] | rw [za1, if_neg (by decide)] | rw [za9, if_neg (by decide)])); first | rfl | assumption)
  ·show Am.look 0 (zb4 3 _ (zb4 3 _ H.heap)) = _
   rw [hok]
   exact (by (repeat (first | rw [za1, if_pos rfl] | rw [za1, if_neg (by decide)] | rw [za9, if_neg (by decide)])); first | rfl | assumption)
  ·show Am.look 1 (zb4 3 _ (zb4 3 _ H.heap)) = _
   rw [hok]
   exact (by (repeat (first | rw [za1, if_pos rfl] | rw [za1, if_neg (by decide)] | rw [za9, if_neg (by decide)])); first | rfl | assumption)
set_option maxHeartbeats 2000000 in
theorem zqo (l : List Ex) (hsl : ∀ y ∈ l, Slim y) (n : Int) (h4 : zc5 l n = 0 → n ≤ 4) : PF Try.prog 27 [.agg [.vs (cXs l)], .int .i64 n] (zm6 l n) := by
 have h28 := zq7 l hsl n
 refine zb1 env0_ok fn27 [(0, .agg [.vs (cXs l)]), (1, .int .i64 n)] (by show 2 ≤ 32; decide) rfl fun w0 N0 => ?_
 unfold ic27 zm6
 repeat (first | refine za5 ?_ | refine za0 rfl ?_ | refine za4 ?_ | refine za2 ?_ | refine za3 rfl ?_ | refine zaw rfl rfl rfl rfl ?_ | refine zcq rfl rfl ?_)
 refine zas rfl rfl h28 (fun h => Bool.noConfusion (show false = true from h)) ?_
 by_cases hg : zc5 l n = 0
 ·rw [if_pos hg, hg]
  obtain ⟨g1, g2, g3, g4⟩ := zjc hg
  have h4 := h4 hg
  obtain ⟨m, rfl⟩ : ∃ m : Nat, n = (m : Int) := ⟨n.toNat, by omega⟩
  have h64 := rep64a (n := m) (by omega) (by omega)
  have h52 := comb52 (List.replicate m [0, 2])
  rw [Int.toNat_natCast]
  have hrow := zmv (List.replicate m [0, 2])
  have hlen := ztg (List.replicate m [0, 2]) (fun c hc => by obtain rfl := List.eq_of_mem_replicate hc; decide) (by rw [List.length_replicate]; omega)
  rw [List.length_replicate] at hrow
  repeat (first | refine za5 ?_ | refine za4 ?_ | refine za2 ?_ | refine za0 rfl ?_ | refine za3 rfl ?_ | refine zbt rfl rfl rfl ?_ | refine zbi rfl ?_ | refine zab ?_ | refine zbl ?_)
  refine o_fsl [[.int .i64 0], [.int .i64 2]] rfl rfl rfl rfl ?_
  refine o_fsl [[vsI [0, 2]]] rfl rfl rfl rfl ?_
  refine za3 rfl ?_
  refine zas rfl rfl h64 (fun h => Bool.noConfusion (show false = true from h)) ?_
  refine zas rfl rfl h52 (fun h => Bool.noConfusion (show false = true from h)) ?_
  refine za4 (za2 (zae ?_))
  refine zes [(some (1, 1), [.ms 1 0 1 0 0 none]), (none, [])] [(0, 0, [.vs (cXs l)])] (l34 l (.fn 130 [] [.vptr [css (List.replicate m [0, 2])]])) rfl (.cons rfl rfl .nil) (.cons rfl (.cons (.grow rfl) .nil) (.new .nil)) (.cons rfl (.fptr rfl rfl) (.cons rfl (.mptr rfl) (.cons rfl (.same rfl) .nil))) ?_
  refine zmh (.inl rfl) rfl fun ha hb => (range80 (local34 l _) (fun s p H hp h => yield34 hsl hg _ ha hb s p H hp h) (List.replicate m [0, 2]) (by rw [List.length_replicate]; omega) (fun c hc => by obtain rfl := List.eq_of_mem_replicate hc; decide) ⟨_, _, _⟩ [] ⟨Nat.le_refl _, rfl, rfl, 0, rfl, rfl⟩ (zio _ _ hrow (by show 0 + _ ≤ _; omega))).mono fun v H2 hF => ?_
  obtain ⟨hK, hF⟩ := hF
  rw [zk9, List.nil_append] at hF
  obtain ⟨nx, h3, h2, sp, h0, h1⟩ := hF
  refine ⟨_, _, .normal, _, _, _, _, _, _, h3, by simp, rfl, fun z hz => ?_, ?_⟩
  ·obtain rfl := List.mem_singleton.1 hz
   exact (by (repeat (first | rw [za1, if_pos rfl] | rw [za1, if_neg (by decide)] | rw [za9, if_neg (by decide)])); first | rfl | assumption)
  ·repeat (first | refine za5 ?_ | refine za2 ?_ | refine zbe ?_ | refine za0 rfl ?_)
   refine zd8 (sp := 0) rfl (by (repeat (first | rw [za1, if_pos rfl] | rw [za1, if_neg (by decide)] | rw [za9, if_neg (by decide)])); first | rfl | assumption) (by omega) rfl ?_
   repeat (first | refine za4 ?_ | refine za2 ?_ | refine zaf ?_ | refine za3 rfl ?_)
   refine zad ⟨.inr rfl, _, rfl, ?_⟩
   refine congrArg AV.tup (zhm (view_row (d := 2) (okL l (ze0 (List.replicate m [0, 2]))) ?_) rfl)
   show Am.look 1 (zbj 2 (zbj 3 H2.heap)) = _
   exact (by (repeat (first | rw [za1, if_pos rfl] | rw [za1, if_neg (by decide)] | rw [za9, if_neg (by decide)])); first | rfl | assumption)
 ·rw [if_neg hg]
  repeat (first | refine za5 ?_ | refine za0 rfl ?_ | refine za4 ?_ | refine za2 ?_ | refine za3 rfl ?_)
  refine zak rfl rfl rfl (fun h => ?_) fun h => absurd (by simpa using h) hg
  repeat (first | refine za5 ?_ | refine za0 rfl ?_ | refine za4 ?_ | refine za2 ?_ | refine zb6 rfl ?_ | refine zaf ?_ | refine za6 ?_ | refine za3 rfl ?_)
  exact zad ⟨.inr rfl, _, rfl, rfl⟩
end Go.Proofs.Ytoiblgbaeglgoaa
