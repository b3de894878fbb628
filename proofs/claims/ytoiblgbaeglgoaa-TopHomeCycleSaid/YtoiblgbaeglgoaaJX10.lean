/-
  TopHomeCycle: its walk.; READING THE ARGUMENTS: lists of ends, of numbers, of strokes.
-/
import Derived.Test.YtoiblgbaeglgoaaJX9
namespace Go.Proofs.Ytoiblgbaeglgoaa
open Go Go.Am
theorem cPs_hasM (L : List Sp) : hasM.hasML (cPs L).flatten = false := by
 induction L with
 | nil => rfl
 | cons p L ih =>
  show hasM.hasML ([.vs (cSs p.l), .int .i64 p.w] ++ (cPs L).flatten) = false
  simp only [List.cons_append, y28, hasM.hasML, ih]
  rfl
theorem cPs_size {L : List Sp} : ∀ x ∈ cPs L, x.length = 2 := fun x hx => by
 obtain ⟨p, _, rfl⟩ := y0o.1 hx
 rfl
theorem mvs_succ (n : Nat) (H : List Sk) : mvsB (n + 1) H = (mvsB n H && H.any fun s => s.a == (n : Nat)) := by
 unfold mvsB
 rw [List.range_succ, List.all_append, y26, List.all_nil, Bool.and_true]
theorem cyc_take {H : List Sk} {i : Nat} (h : i < H.length) : zm2 H 0 ++ (H.take (i + 1)).map zhq = (zm2 H 0 ++ (H.take i).map zhq) ++ [zhq H[i]] := by
 rw [y2e, y07 h, y22, y1j]
 rfl
theorem zxk {f : List Ex} : ∀ (H : List Sk) (E : List Bool), zpn f H E = 0 → ∀ s ∈ H, 0 ≤ s.a ∧ s.a < E.length
 | [], _, _, s, hs => absurd hs y0d
 | x :: r, E, h, s, hs => by
  obtain ⟨a0, a1, _, _, hc⟩ := zns h
  rcases y0m.1 hs with rfl | hs
  ·exact ⟨a0, a1⟩
  ·have := zxk r _ hc s hs
   rwa [zd8] at this
set_option maxHeartbeats 4000000 in
theorem law14 (f : List Ex) (hlen : f.length < 9223372036854775808) (hsl : ∀ y ∈ f, Slim y) (E : List Bool) : PF Try.prog 14 [.agg [.vs (cXs f)], vsB E] (.bool true) := by
 have hcf : (cXs f).length = f.length := zb0 f
 have hce : (E.map fun b => ([.bool b] : List AV)).length = E.length := y09 ..
 have q2 := few11 f hlen hsl
 have q3 := gcheck29 f hsl (E.length : Nat)
 refine zb1 env0_ok fn14 [(0, .agg [.vs (cXs f)]), (1, vsB E)] (by show 2 ≤ 158; decide) rfl fun w0 N0 => ?_
 unfold ic14 vsB
 repeat (first | refine za8 ?_ | refine za5 rfl ?_ | refine zai ?_ | refine zaa ?_ | refine za1 rfl ?_ | refine zau ?_ | refine zbd rfl rfl ?_ | refine zc1 rfl rfl ?_)
 rw [hce]
 refine zaq rfl rfl rfl (fun c1 => ?_) fun c1 => ?_
 ·repeat (first | refine za8 ?_ | refine za5 rfl ?_ | refine zai ?_ | refine zaa ?_ | refine zb4 rfl ?_ | refine zbz rfl rfl ?_ | refine za1 rfl ?_ | refine zat rfl rfl ?_)
  refine zap rfl rfl zet noC ?_
  refine zad rfl rfl rfl rfl rfl rfl rfl (onu (zak (za4 ?_)))
  exact zaf ⟨.inr rfl, _, rfl, rfl⟩
 refine za1 rfl (zbc rfl (za1 rfl (zbc rfl ?_)))
 refine zaq rfl rfl rfl (fun c2 => ?_) fun c2 => ?_
 ·repeat (first | refine za8 ?_ | refine za5 rfl ?_ | refine zai ?_ | refine zaa ?_ | refine zb4 rfl ?_ | refine zbz rfl rfl ?_ | refine za1 rfl ?_ | refine zat rfl rfl ?_ | refine zal rfl rfl ?_)
  refine zap rfl rfl zet noC ?_
  refine zad rfl rfl rfl rfl rfl rfl rfl (onu (zak (za4 ?_)))
  exact zaf ⟨.inr rfl, _, rfl, rfl⟩
 refine zal rfl rfl (za1 rfl (zbc rfl (za9 rfl (zbc rfl (za7 rfl rfl (zbc rfl (zbd rfl rfl (zbc rfl ?_))))))))
 rw [hcf]
 refine zaq rfl rfl rfl (fun c3 => ?_) fun c3 => ?_
 ·repeat (first | refine za8 ?_ | refine za5 rfl ?_ | refine zai ?_ | refine zaa ?_ | refine zb4 rfl ?_ | refine zbz rfl rfl ?_ | refine za1 rfl ?_ | refine zat rfl rfl ?_ | refine zal rfl rfl ?_)
  refine zap rfl rfl zet noC ?_
  refine zad rfl rfl rfl rfl rfl rfl rfl (onu (zak (za4 ?_)))
  exact zaf ⟨.inr rfl, _, rfl, rfl⟩
 refine zal rfl rfl (za1 rfl (zbc rfl (zam rfl rfl rfl rfl (zbc rfl ?_))))
 refine zap rfl rfl q2 noC ?_
 cases c4 : fewB f with
 | false =>
  refine zbc rfl (zfr rfl rfl (zal rfl rfl (za1 rfl (zbz rfl rfl (zbz rfl rfl (zbz rfl rfl (zbz rfl rfl (zat rfl rfl (onu (zb4 rfl (zsr rfl ?_)))))))))))
  refine zap rfl rfl zet noC ?_
  refine zad rfl rfl rfl rfl rfl rfl rfl (onu (zak (za4 ?_)))
  exact zaf ⟨.inr rfl, _, rfl, rfl⟩
 | true =>
 refine zbc rfl (zfr rfl rfl (zal rfl rfl (za1 rfl (zbc rfl (zam rfl rfl rfl rfl (zbc rfl (za1 rfl (zbc rfl ?_))))))))
 refine zap rfl rfl q3 noC ?_
 refine zbc rfl ?_
 refine zaq rfl rfl rfl (fun c5 => ?_) fun c5 => ?_
 ·refine zal rfl rfl (onu (zb4 rfl (zsr rfl ?_)))
  refine zap rfl rfl zet noC ?_
  refine zad rfl rfl rfl rfl rfl rfl rfl (onu (zak (za4 ?_)))
  exact zaf ⟨.inr rfl, _, rfl, rfl⟩
 have h1 : 1 ≤ E.length := by have := of_decide_eq_false c1; omega
 have h4 : E.length ≤ 4 := by have := of_decide_eq_false c2; omega
 have hg : zcc f E.length = 0 := by simpa using c5
 have p37 := find37 f hsl E fun _ => h4
 rcases zvd h1 h4 hg with e | e | ⟨H, e, hc, h16⟩
 ·rw [e] at p37
  refine zal rfl rfl (onu (zb8 rfl (zab (zaa (zsr rfl (zam rfl rfl rfl rfl (za1 rfl ?_)))))))
  refine zap rfl rfl p37 noC ?_
  repeat (first | refine za8 ?_ | refine za5 rfl ?_ | refine zai ?_ | refine zaa ?_ | refine zb4 rfl ?_ | refine zbc rfl ?_ | refine za1 rfl ?_ | refine zal rfl rfl ?_ | refine zbj rfl rfl ?_ | refine zby rfl rfl rfl ?_ | refine zci rfl rfl rfl ?_)
  refine zap rfl rfl zet noC ?_
  refine zat rfl rfl (zad rfl rfl rfl rfl rfl rfl rfl (onu (zak (za4 ?_))))
  exact zaf ⟨.inr rfl, _, rfl, rfl⟩
 ·rw [e] at p37
  refine zal rfl rfl (onu (zb8 rfl (zab (zaa (zsr rfl (zam rfl rfl rfl rfl (za1 rfl ?_)))))))
  refine zap rfl rfl p37 noC ?_
  repeat (first | refine za8 ?_ | refine za5 rfl ?_ | refine zai ?_ | refine zaa ?_ | refine zb4 rfl ?_ | refine zbc rfl ?_ | refine zbz rfl rfl ?_ | refine za1 rfl ?_ | refine zat rfl rfl ?_ | refine zbj rfl rfl ?_ | refine zby rfl rfl rfl ?_)
  refine zap rfl rfl zet noC ?_
  refine zat rfl rfl (zad rfl rfl rfl rfl rfl rfl rfl (onu (zak (za4 ?_))))
  exact zaf ⟨.inr rfl, _, rfl, rfl⟩
 rw [e] at p37
 have p68 := zux H
 refine zal rfl rfl (onu (zb8 rfl (zab (zaa (zsr rfl (zam rfl rfl rfl rfl (za1 rfl ?_)))))))
 refine zap rfl rfl p37 noC ?_
 repeat (first | refine za8 ?_ | refine za5 rfl ?_ | refine zai ?_ | refine zaa ?_ | refine zab ?_ | refine zb8 rfl ?_ | refine za1 rfl ?_ | refine zad rfl rfl rfl rfl rfl rfl rfl ?_ | refine zau ?_ | refine zfd rfl rfl ?_ | refine zbj rfl rfl ?_ | refine zci rfl rfl rfl ?_)
 refine zap rfl rfl p68 noC ?_
 refine onu (zac ?_)
 have hs : ∀ s ∈ H, 0 ≤ s.a ∧ s.a < 4 := fun s h => by
  have := zxk H E hc s h
  omega
 refine zeg [(some (1, 1), [.bool false]), (some (2, 2), [.int .i64 (E.length : Nat), .ms 2 0 2 0 0 none]), (none, [])] [(0, 0, [.vs (cXs f)])] (l14 f E H) rfl (.cons rfl rfl .nil)
  (.cons rfl (.keep rfl) (.cons rfl (.cons (.same rfl) (.cons (.grow rfl) .nil)) (.new .nil)))
  (.cons rfl (.same rfl) (.cons rfl (.same rfl) (.cons rfl (.fptr rfl rfl) (.cons rfl (.mptr rfl) (.cons rfl (.same rfl) (.cons rfl (.same rfl) (.cons rfl (.mptr rfl) .nil))))))) ?_
 refine zgu (.inl rfl) rfl fun ha hb => (range117 H (by omega) (fun k hk H0 hQ => yield14 (by omega) hs ha hb k hk H0 hQ) ⟨_, _, _⟩ ⟨⟨rfl, ⟨0, rfl, rfl⟩, by show 2 < 5; decide⟩, rfl, rfl, by show 4 < 5; decide⟩).mono fun v H2 hF => ?_
 obtain ⟨sq0, h3, k4, hnx⟩ := hF
 refine ⟨_, _, .normal, _, _, _, _, _, _, k4, by simp, rfl, fun z hz => ?_, ?_⟩
 ·obtain rfl := y0e.1 hz
  show Am.look 3 (zbe 4 H2.heap) = _
  rw [za3, if_neg (by decide)]
  exact h3
 have hset : ∀ s : Sk, setAt 0 [AV.int .i64 0, AV.bool false] (cS s) = cS s := fun _ => rfl
 have hcl : (cSs H).length = H.length := zc3 H
 have sq := sq0.drop (j := 4) (by decide)
 have h3 : Am.look 3 (zbe 4 H2.heap) = some (1, .deferred) := by
  rw [za3, if_neg (by decide)]
  exact h3
 generalize zbe 4 H2.heap = hp at sq h3
 generalize H2.next = nx at sq hnx
 generalize H2.clk = ck
 refine zb7 (zaa (za8 (zsr rfl (za1 rfl (zbd rfl rfl (za1 rfl (onu (zac ?_))))))))
 rw [hcl]
 refine zbu (fun mm S => ∃ i hp nx ck, mm = H.length - i ∧ i ≤ H.length ∧ Sq14 E.length (zm2 H 0 ++ (H.take i).map zhq) hp nx ∧ Am.look 3 hp = some (1, .deferred) ∧ 3 < nx ∧
   S = st 158 [(1, vsB E), (2, .vptr [.vs (cXs f)]), (4, .mptr 0 0 0), (5, .int .i64 (E.length : Nat)), (6, .vs (cSs H)), (8, .mptr 1 0 0), (87, .vs (cSs H)), (88, .int .i64 (H.length : Nat)), (89, .int .i64 (i : Nat))] hp nx ck [(3, 1)]) H.length
  (zan (.cons rfl (.cons rfl (.cons rfl (.cons rfl (.cons rfl (.cons rfl (.cons rfl (.cons rfl (.cons rfl .nil)))))))))) ⟨0, hp, nx, ck, rfl, y0t _, by rw [List.take_zero, List.map_nil, y0p]; exact sq, h3, by omega, rfl⟩ ?_
 clear sq h3 hnx
 rintro mm S ⟨i, hp, nx, ck, rfl, hi, sq, h3, hnx, rfl⟩
 unfold b14_2
 refine zsr rfl ?_
 refine zaq rfl rfl rfl (fun h => ?_) fun h => ?_
 ·have hlt : i < H.length := by have := of_decide_eq_true h; omega
  have hge := zdo hlt
  have hsn := cyc_take hlt
  have hll : (zm2 H 0 ++ (H.take i).map zhq).length ≤ 100 := by
   rw [y0j, zuf, y09, y1u]
   omega
  generalize H[i] = s at hge hsn
  have sq1 := sq.fresh (ck, .cells (cS s))
  obtain ⟨q, a1, a2⟩ := sq1.lst
  refine onu (za8 (zb4 rfl (zab (zaa (za8 (zac (zsr rfl (zbh rfl rfl (by omega) (by assumption) rfl (zam rfl rfl rfl rfl (zau ?_))))))))))
  refine zad (vs := cS s) rfl rfl rfl rfl zar rfl rfl ?_
  rw [zbr, hset s]
  have h31 : Am.look 3 ((nx, ck, AObj.cells (cS s)) :: hp) = some (1, .deferred) := by
   rw [za2, if_neg (by omega)]
   exact h3
  refine onR rfl (za9 rfl ?_)
  refine zbk (sp := 0) (cs := [.int .i64 (E.length : Nat), .ms 2 q 2 0 (zm2 H 0 ++ (H.take i).map zhq).length none]) rfl a1 (by omega) rfl ?_
  refine zcu (sp := ck) (cs := cS s) rfl zar (by omega) rfl rfl ?_
  refine zm1 [cS s] rfl rfl rfl rfl ?_
  refine zfd rfl rfl ?_
  refine zm1 [cP (zhq s)] rfl rfl rfl rfl ?_
  refine zbf [cP (zhq s)] rfl rfl rfl (fun h => Nat.noConfusion h) rfl (by decide) a2 (zjr _).symm (by show _ + 1 ≤ _; omega) ?_
  rw [zt8]
  refine za9 rfl ?_
  refine ze0 (id := 1) (sp := 0) (off := 0 + 1) (cs := [.int .i64 (E.length : Nat), .ms 2 q 2 0 (zm2 H 0 ++ (H.take i).map zhq).length none]) rfl rfl rfl (by rw [za0, if_neg (by decide)]; exact a1) (y0k 1) rfl ?_
  refine zai (zb7 (zaa (za5 rfl (zb6 (op := .add) rfl rfl rfl (za1 rfl (zai ?_))))))
  rw [zas i (by omega)]
  refine zav (show H.length - (i + 1) < H.length - i by omega) (zan (.cons rfl (.cons rfl (.cons rfl (.cons rfl (.cons rfl (.cons rfl (.cons rfl (.cons rfl (.cons rfl .nil)))))))))) ⟨i + 1, _, _, _, rfl, hlt, by rw [hsn]; exact sq1.app _ _, ?_, y1p hnx, rfl⟩
  rw [za0, if_neg (by decide), za0, if_neg (by decide)]
  exact h31
 have hi2 : i = H.length := by have := of_decide_eq_false h; omega
 subst hi2
 have hL : zm2 H 0 ++ (H.take H.length).map zhq = zpa H := by rw [y2a]; rfl
 rw [hL] at sq
 obtain ⟨q, a1, a2⟩ := sq.lst
 have a0 := sq.res
 clear sq
 refine onu (za8 (zb8 rfl (zbm (zao ?_))))
 refine zcn ?_
 repeat (first | refine za8 ?_ | refine za5 rfl ?_ | refine zai ?_ | refine zaa ?_ | refine zac ?_ | refine zbl ?_ | refine za1 rfl ?_)
 have p72 := seq72 (E.length : Nat) (zpa H) (by rw [zrm]; omega)
 rw [zxj, zxu h1 h4 (by omega) hc] at p72
 have hlc : (cPs (zpa H)).length = (zpa H).length := zfh _
 have hdg := cyc_dg h1 h4 hc
 have hen := cyc_ends h1 h4 hc
 have hln := zrm H
 have hck := zxu h1 h4 (show H.length ≤ 32 by omega) hc
 generalize zpa H = L at *
 refine zq (q := 1) rfl [(some (0, 0), [.bool false]), (some (1, 0), [.int .i64 (E.length : Nat), .vs (cPs L)])] [(2, q, (cPs L).flatten)] [(1, vsB E), (2, .vptr [.vs (cXs f)]), (4, .mptr 0 0 0), (5, .int .i64 (E.length : Nat)), (6, .vs (cSs H)), (8, .mptr 1 0 0), (15, .bool true), (102, .int .i64 (E.length : Nat)), (103, .int .i64 0)] rfl (.cons a2 (cPs_hasM L) .nil)
  (.cons a0 (.keep rfl) (.cons a1 (.cons (.same rfl) (.cons (.fms0 (by simp [fzl]) hlc cPs_size rfl) .nil)) .nil))
  (.cons rfl (.same rfl) (.cons rfl (.same rfl) (.cons rfl (.mptr rfl) (.cons rfl (.same rfl) (.cons rfl (.same rfl) (.cons rfl (.mptr rfl) (.cons rfl (.same rfl) (.cons rfl (.same rfl) (.cons rfl (.same rfl) .nil))))))))) ?_
 refine zq (q := 1) rfl [(some (0, 0), [.bool false])] [(1, 0, [.int .i64 (E.length : Nat), .vs (cPs L)])] [(1, vsB E), (2, .vptr [.vs (cXs f)]), (4, .mptr 0 0 0), (5, .int .i64 (E.length : Nat)), (6, .vs (cSs H)), (8, .vptr [.int .i64 (E.length : Nat), .vs (cPs L)]), (15, .bool true), (102, .int .i64 (E.length : Nat)), (103, .int .i64 0)] rfl (.cons rfl rfl .nil)
  (.cons rfl (.keep rfl) .nil)
  (.cons rfl (.same rfl) (.cons rfl (.same rfl) (.cons rfl (.mptr rfl) (.cons rfl (.same rfl) (.cons rfl (.same rfl) (.cons rfl (.fptr rfl rfl) (.cons rfl (.same rfl) (.cons rfl (.same rfl) (.cons rfl (.same rfl) .nil))))))))) ?_
 refine zbu (fun mm S => ∃ j, mm = E.length - j ∧ j ≤ E.length ∧
   S = st 158 [(1, vsB E), (2, .vptr [.vs (cXs f)]), (4, .mptr 0 0 0), (5, .int .i64 (E.length : Nat)), (6, .vs (cSs H)), (8, .vptr [.int .i64 (E.length : Nat), .vs (cPs L)]), (15, .bool (mvsB j H)), (102, .int .i64 (E.length : Nat)), (103, .int .i64 (j : Nat))] [(0, 0, .cells [.bool false]), (1, 0, .deferred)] 2 1 [(1, 0)]) E.length
  (zan (.cons rfl (.cons rfl (.cons rfl (.cons rfl (.cons rfl (.cons rfl (.cons rfl (.cons rfl (.cons rfl .nil)))))))))) ⟨0, rfl, y0t _, rfl⟩ ?_
 rintro mm S ⟨j, rfl, hj, rfl⟩
 unfold b14_4
 refine zsr rfl ?_
 refine zaq rfl rfl rfl (fun h => ?_) fun h => ?_
 ·have hlt : j < E.length := by have := of_decide_eq_true h; omega
  have p70 := zv8 H (by omega) (j : Nat)
  have hms := mvs_succ j H
  refine onu (za8 (zb4 rfl (zab (zaa (za8 (zac (zsr rfl (za1 rfl (zau (zad rfl rfl rfl rfl rfl rfl rfl (zai ?_)))))))))))
  refine zaa (za5 rfl (za1 rfl (za1 rfl ?_)))
  cases hm : mvsB j H with
  | false =>
   rw [hm, Bool.false_and] at hms
   refine zbz rfl rfl (zbz rfl rfl (zbz rfl rfl (zal rfl rfl (za1 rfl (zai (zb7 (zaa (za5 rfl (zb6 (op := .add) rfl rfl rfl (za1 rfl (zai ?_)))))))))))
   rw [zas j (by omega)]
   exact zav (show E.length - (j + 1) < E.length - j by omega) (sq (q := 1) rfl [(some (0, 0), [.bool false])] [] rfl rfl rfl rfl .nil (.cons rfl (.keep rfl) .nil) (.cons rfl (.same rfl) (.cons rfl (.same rfl) (.cons rfl (.mptr rfl) (.cons rfl (.same rfl) (.cons rfl (.same rfl) (.cons rfl (.same rfl) (.cons rfl (.same rfl) (.cons rfl (.same rfl) (.cons rfl (.same rfl) .nil)))))))))) ⟨j + 1, rfl, hlt, by rw [hms]; rfl⟩
  | true =>
   rw [hm, Bool.true_and] at hms
   refine zbc rfl (za1 rfl (zbc rfl (zfk rfl rfl (zbc rfl ?_))))
   refine zap rfl rfl p70 (fun _ => rfl) ?_ (fun m hm => by obtain rfl := y0e.1 hm; rfl)
   refine zat rfl rfl (za1 rfl (zai (zb7 (zaa (za5 rfl (zb6 (op := .add) rfl rfl rfl (za1 rfl (zai ?_))))))))
   rw [zas j (by omega)]
   exact zav (show E.length - (j + 1) < E.length - j by omega) (sq (q := 1) rfl [(some (0, 0), [.bool false])] [] rfl rfl rfl rfl .nil (.cons rfl (.keep rfl) .nil) (.cons rfl (.same rfl) (.cons rfl (.same rfl) (.cons rfl (.mptr rfl) (.cons rfl (.same rfl) (.cons rfl (.same rfl) (.cons rfl (.same rfl) (.cons rfl (.same rfl) (.cons rfl (.same rfl) (.cons rfl (.same rfl) .nil)))))))))) ⟨j + 1, rfl, hlt, by rw [hms]; rfl⟩
 have hj2 : j = E.length := by have := of_decide_eq_false h; omega
 subst hj2
 refine onu (za8 (zb8 rfl (zbm (zao ?_))))
 refine zcn ?_
 refine zbl (zaa (za8 (zsr rfl (zam rfl rfl rfl rfl ?_))))
 refine zap rfl rfl p72 noC ?_ (fun m hm => by obtain rfl := y0e.1 hm; rfl)
 by_cases h0 : H.length = 0
 ·rw [if_pos h0]
  refine za1 rfl (onr rfl (za1 rfl (zfr rfl rfl (za1 rfl ?_))))
  cases hm : mvsB E.length H with
  | false =>
   refine zbz rfl rfl (zbz rfl rfl (zbz rfl rfl (zat rfl rfl (onu (zb4 rfl (zsr rfl (za1 rfl (zby rfl rfl rfl (za1 rfl (zbc rfl ?_))))))))))
   refine zap rfl rfl zet noC ?_ (fun m hm => by obtain rfl := y0e.1 hm; rfl)
   refine zat rfl rfl (zad rfl rfl rfl rfl rfl rfl rfl (onu (zak (za4 ?_))))
   exact zaf ⟨.inr rfl, _, rfl, rfl⟩
  | true =>
   refine zbc rfl (za1 rfl (zbc rfl (zbd rfl rfl (zbc rfl ?_))))
   rw [hcl, h0]
   refine zby rfl rfl rfl (zal rfl rfl (onu (zb4 rfl (zsr rfl (za1 rfl (zby rfl rfl rfl (za1 rfl (zbc rfl ?_))))))))
   refine zap rfl rfl zet noC ?_ (fun m hm => by obtain rfl := y0e.1 hm; rfl)
   refine zat rfl rfl (zad rfl rfl rfl rfl rfl rfl rfl (onu (zak (za4 ?_))))
   exact zaf ⟨.inr rfl, _, rfl, rfl⟩
 rw [if_neg h0]
 cases hm : mvsB E.length H with
 | false =>
  repeat (first | refine za8 ?_ | refine za5 rfl ?_ | refine zai ?_ | refine zaa ?_ | refine zb4 rfl ?_ | refine zbc rfl ?_ | refine zbz rfl rfl ?_ | refine za1 rfl ?_ | refine zat rfl rfl ?_ | refine zfr rfl rfl ?_ | refine zby rfl rfl rfl ?_)
  refine zap rfl rfl zet noC ?_ (fun m hm => by obtain rfl := y0e.1 hm; rfl)
  refine zat rfl rfl (zad rfl rfl rfl rfl rfl rfl rfl (onu (zak (za4 ?_))))
  exact zaf ⟨.inr rfl, _, rfl, rfl⟩
 | true =>
 rw [if_neg h0, if_pos hm] at hck
 obtain ⟨m, e, ok⟩ := chk_ok hck
 obtain rfl : E.length = m := by omega
 have p65 := ends65 ok (by rw [zxj]; exact hck) h4 H.length (by omega)
 rw [hen] at p65
 have p18 := zth f hsl (E.length : Nat) L (by omega) fun _ => by omega
 unfold dgV dgC dgT at p18
 rw [if_pos hck, if_pos hck, hg, if_pos rfl, y0w, hdg] at p18
 have p73 := equal73 h1 h4
 refine za1 rfl (onr rfl (za1 rfl (zfr rfl rfl (za1 rfl (zbc rfl (za1 rfl (zbc rfl (zbd rfl rfl (zbc rfl ?_)))))))))
 refine zaq rfl rfl rfl (fun h5 => ?_) fun h5 => ?_
 ·have h5 : (((cSs H).length : Nat) : Int) == 0 := h5
  rw [hcl] at h5
  have : ((H.length : Nat) : Int) = 0 := by simpa using h5
  omega
 refine zal rfl rfl (onu (zb8 rfl (zab (zaa (zsr rfl (zam rfl rfl rfl rfl (za1 rfl (zbd rfl rfl ?_))))))))
 rw [hcl]
 refine zap rfl rfl p65 noC ?_ (fun m hm => by obtain rfl := y0e.1 hm; rfl)
 refine za1 rfl (zbj rfl rfl (zbj rfl rfl (za1 rfl (za1 rfl (onr rfl (zam rfl rfl rfl rfl (zam rfl rfl rfl rfl ?_)))))))
 refine zap rfl rfl p18 noC ?_ (fun m hm => by obtain rfl := y0e.1 hm; rfl)
 repeat (first | refine za8 ?_ | refine za5 rfl ?_ | refine zai ?_ | refine zaa ?_ | refine zbc rfl ?_ | refine za1 rfl ?_ | refine zbj rfl rfl ?_ | refine zb6 (op := .add) rfl rfl rfl ?_ | refine zby rfl rfl rfl ?_)
 refine zap rfl rfl p73 noC ?_ (fun m hm => by obtain rfl := y0e.1 hm; rfl)
 repeat (first | refine zbc rfl ?_ | refine za1 rfl ?_ | refine zat rfl rfl ?_ | refine zfr rfl rfl ?_)
 refine zap rfl rfl zet noC ?_ (fun m hm => by obtain rfl := y0e.1 hm; rfl)
 refine zat rfl rfl (zad rfl rfl rfl rfl rfl rfl rfl (onu (zak ?_)))
 exact zaf ⟨.inr rfl, _, rfl, rfl⟩
open Go Go.Am Go.ChangeShapes Go.WideShapes Go.ChangeAt Go.RowKit Go.Deep
section
variable {H : Type} {enc : TypeId × Value → H} {w : World} {base : Nat} {spare : Nat → Bool} {held : Bool}
theorem rdO : Rd enc Try.prog w base spare held 4 cBool := rd_bool Try.underlying4 (by kernel_rfl)
theorem rdB : Rd enc Try.prog w base spare held 42 (zhy cBool) :=
 zud Try.underlying42 (by kernel_rfl) (by rw [show Try.prog.cellsOf 4 = 1 from by kernel_rfl]; decide) rdO
end
end Go.Proofs.Ytoiblgbaeglgoaa
