/-
  THE REFERENCE's ORDER: Holds, ready, Sorted, Leads, Looped walked.
-/
import Derived.Test.YtoagikifehmlpaaFK3
namespace Go.Proofs.Ytoagikifehmlpaa
open Go Go.Am
def b74_0 : IC := .seq (.seq (.region [⟨(some 6), .mov (.t 5), none⟩,
  ⟨(some 7), .mov (.t 0), none⟩,
  ⟨(some 8), .len false (.t 7), none⟩,
  ⟨(some 9), .bin .lss (.t 6) (.t 8), none⟩] none)
 (.cond (.t 9) (.skip)
 (.exit 0)))
 (.seq (.block 1 (.seq (.region [⟨(some 12), .mov (.t 0), none⟩,
  ⟨(some 13), .mov (.t 5), none⟩,
  ⟨(some 14), .idxs 1 (.t 12) (.t 13), none⟩,
  ⟨(some 15), .load none (.t 14), none⟩,
  ⟨(some 16), .mov (.t 1), none⟩,
  ⟨(some 17), .bin .eql (.t 15) (.t 16), none⟩] none)
 (.cond (.t 17) (.seq (.region [⟨(some 4), .mov (.c (.bool true)), none⟩] none)
 (.ret))
 (.skip))))
 (.region [⟨(some 10), .mov (.t 5), none⟩,
  ⟨(some 11), .bin .add (.t 10) (.c (.int .i64 1)), none⟩,
  ⟨(some 5), .mov (.t 11), none⟩] none))
-- pneumatic/pneumaticref10.Holds
def ic74 : IC := .seq (.region [⟨(some 4), .mov (.c (.bool false)), none⟩] none)
 (.seq (.seq (.region [⟨(some 5), .mov (.c (.int .i64 0)), none⟩] none)
 (.block 0 (.loop b74_0)))
 (.seq (.region [⟨(some 4), .mov (.c (.bool false)), none⟩] none)
 (.ret)))
theorem fn74 : env0.fn 74 = some ⟨18, ic74, [.t 4]⟩ := by kernel_rfl
set_option maxHeartbeats 1000000 in
theorem holds74 (a : List Int) (x : Int) (ha : a.length ≤ 1000000) : PF Try.prog 74 [vsI a, .int .i64 x] (.bool (a.contains x)) := by
 have hva : (a.map fun z => ([.int .i64 z] : List AV)).length = a.length := List.length_map ..
 refine zav env0_ok fn74 [(0, vsI a), (1, .int .i64 x)] (by show 2 ≤ 18; decide) rfl fun w0 N0 => ?_
 unfold ic74
 repeat (first | refine za5 ?_ | refine za0 rfl ?_ | refine za3 ?_ | refine za2 ?_ | refine zaa ?_ | refine za1 rfl ?_)
 refine zba (fun mm S => ∃ i, mm = a.length - i ∧ i ≤ a.length ∧ x ∉ a.take i ∧ S = st 18 [(0, vsI a), (1, .int .i64 x), (5, .int .i64 (i : Nat))] [] 0 0) a.length
  (za7 (.cons rfl (.cons rfl (.cons rfl .nil)))) ⟨0, rfl, Nat.zero_le _, by simp, rfl⟩ ?_
 rintro mm S ⟨i, rfl, hi, hd, rfl⟩
 unfold b74_0
 repeat (first | refine za5 ?_ | refine za0 rfl ?_ | refine za1 rfl ?_ | refine zbg rfl rfl ?_)
 refine zam rfl rfl rfl (fun h3 => ?_) fun h3 => ?_
 ·have hlt : i < a.length := by
   have h4 : ((i : Nat) : Int) < (((a.map fun z => ([.int .i64 z] : List AV)).length : Nat) : Int) := of_decide_eq_true h3
   omega
  have w1 : IntKind.wrap .i64 (((i : Nat) : Int) + 1) = ((i + 1 : Nat) : Int) := zak i (by omega)
  have hg := zcv hlt
  repeat (first | refine za5 ?_ | refine za0 rfl ?_ | refine za3 ?_ | refine za2 ?_ | refine zaa ?_ | refine zad ?_ | refine zbt rfl ?_ | refine za1 rfl ?_ | refine zaf rfl rfl ?_ | refine zb1 rfl rfl (by omega) (by assumption) rfl ?_)
  refine zam rfl rfl rfl (fun h4 => ?_) fun h4 => ?_
  ·have h4 : a[i] = x := by simpa using h4
   rw [show a.contains x = true from List.contains_iff_mem.2 (by rw [← h4]; exact List.getElem_mem hlt)]
   repeat (first | refine za5 ?_ | refine za0 rfl ?_ | refine za3 ?_ | refine za2 ?_ | refine zbt rfl ?_ | refine zat ?_ | refine zag ?_ | refine zb4 ?_ | refine za1 rfl ?_)
   exact zao ⟨.inr rfl, _, rfl, rfl⟩
  ·have h4 : ¬ a[i] = x := by simpa using h4
   repeat (first | refine za0 rfl ?_ | refine za3 ?_ | refine za2 ?_ | refine zb7 ?_ | refine zad ?_ | refine zbm rfl ?_ | refine za1 rfl ?_ | refine zaz (op := .add) rfl rfl rfl ?_)
   rw [w1]
   exact zaj (show a.length - (i + 1) < a.length - i by omega) (za7 (.cons rfl (.cons rfl (.cons rfl .nil)))) ⟨i + 1, rfl, hlt, by
    rw [List.take_add_one, List.getElem?_eq_getElem hlt, List.mem_append]
    exact fun h => h.elim hd fun h => h4 (List.mem_singleton.1 h).symm, rfl⟩
 ·have hi2 : i = a.length := by
   have h4 : ¬ ((i : Nat) : Int) < (((a.map fun z => ([.int .i64 z] : List AV)).length : Nat) : Int) := of_decide_eq_false h3
   omega
  subst hi2
  rw [List.take_length] at hd
  rw [show a.contains x = false from by
   cases hc : a.contains x with
   | false => rfl
   | true => exact absurd (List.contains_iff_mem.1 hc) hd]
  repeat (first | refine za3 ?_ | refine za2 ?_ | refine zbm rfl ?_ | refine zb9 ?_ | refine zab ?_)
  refine zc8 ?_
  repeat (first | refine za5 ?_ | refine za0 rfl ?_ | refine za3 ?_ | refine za2 ?_ | refine zat ?_ | refine zb8 ?_ | refine za1 rfl ?_)
  exact zao ⟨.inr rfl, _, rfl, rfl⟩
theorem iL_mem {l : List Nat} {v : Nat} : ((v : Nat) : Int) ∈ iL l ↔ v ∈ l := by
 unfold iL
 rw [List.mem_map]
 constructor
 ·rintro ⟨w, hw, e⟩
  rw [← Int.ofNat_inj.1 e]
  exact hw
 ·intro h
  exact ⟨v, h, rfl⟩
theorem zmu (l : List Nat) (v : Nat) : (iL l).contains ((v : Nat) : Int) = l.contains v := by
 rw [Bool.eq_iff_iff, List.contains_iff_mem, List.contains_iff_mem, iL_mem]
def b70_0 : IC := .seq (.seq (.region [⟨(some 8), .mov (.t 7), none⟩,
  ⟨(some 9), .faddr 1 (.t 3), none⟩,
  ⟨(some 10), .load none (.t 9), none⟩,
  ⟨(some 11), .len false (.t 10), none⟩,
  ⟨(some 12), .bin .lss (.t 8) (.t 11), none⟩] none)
 (.cond (.t 12) (.skip)
 (.exit 0)))
 (.seq (.block 1 (.seq (.region [⟨(some 15), .faddr 1 (.t 3), none⟩,
  ⟨(some 16), .load none (.t 15), none⟩,
  ⟨(some 17), .mov (.t 7), none⟩,
  ⟨(some 18), .idxs 2 (.t 16) (.t 17), none⟩,
  ⟨(some 19), .faddr 1 (.t 18), none⟩,
  ⟨(some 20), .load none (.t 19), none⟩,
  ⟨(some 21), .mov (.t 2), none⟩,
  ⟨(some 22), .bin .eql (.t 20) (.t 21), none⟩,
  ⟨(some 23), .mov (.t 22), none⟩,
  ⟨(some 24), .mov (.t 1), some (23, true)⟩,
  ⟨(some 25), .faddr 1 (.t 3), some (23, true)⟩,
  ⟨(some 26), .load none (.t 25), some (23, true)⟩,
  ⟨(some 27), .mov (.t 7), some (23, true)⟩,
  ⟨(some 28), .idxs 2 (.t 26) (.t 27), some (23, true)⟩,
  ⟨(some 29), .faddr 0 (.t 28), some (23, true)⟩,
  ⟨(some 30), .load none (.t 29), some (23, true)⟩,
  ⟨(some 31), .call (.c (.fn 74 [] [])) [(.t 24), (.t 30)], some (23, true)⟩,
  ⟨(some 32), .un .not (.t 31), some (23, true)⟩,
  ⟨(some 33), .pick (.t 23) (.t 32) (.c (.bool false)), none⟩] none)
 (.cond (.t 33) (.seq (.region [⟨(some 6), .mov (.c (.bool false)), none⟩] none)
 (.ret))
 (.skip))))
 (.region [⟨(some 13), .mov (.t 7), none⟩,
  ⟨(some 14), .bin .add (.t 13) (.c (.int .i64 1)), none⟩,
  ⟨(some 7), .mov (.t 14), none⟩] none))
-- pneumatic/pneumaticref10.ready
def ic70 : IC := .seq (.region [⟨(some 3), .box (.t 0), none⟩,
  ⟨(some 6), .mov (.c (.bool false)), none⟩] none)
 (.seq (.seq (.region [⟨(some 7), .mov (.c (.int .i64 0)), none⟩] none)
 (.block 0 (.loop b70_0)))
 (.seq (.region [⟨(some 34), .mov (.t 1), none⟩,
  ⟨(some 35), .mov (.t 2), none⟩,
  ⟨(some 36), .call (.c (.fn 74 [] [])) [(.t 34), (.t 35)], none⟩,
  ⟨(some 37), .un .not (.t 36), none⟩,
  ⟨(some 6), .mov (.t 37), none⟩] none)
 (.ret)))
theorem fn70 : env0.fn 70 = some ⟨38, ic70, [.t 6]⟩ := by kernel_rfl
set_option maxHeartbeats 2000000 in
theorem ready70 (m : Nat) (E : List (Nat × Nat)) (hE : E.length ≤ 5000) (out : List Nat) (ho : out.length ≤ 1000) (v : Nat) : PF Try.prog 70 [cG (m : Nat) (zai E), vsI (iL out), .int .i64 (v : Nat)] (.bool (zov E out v)) := by
 have hcl : (cE (zai E)).length = E.length := by rw [zc2]; exact List.length_map ..
 have p74 := fun x : Nat => holds74 (iL out) (x : Nat) (by rw [zee]; omega)
 simp only [zmu] at p74
 refine zav env0_ok fn70 [(0, .agg [.int .i64 (m : Nat), .vs (cE (zai E))]), (1, vsI (iL out)), (2, .int .i64 (v : Nat))] (by show 3 ≤ 38; decide) rfl fun w0 N0 => ?_
 unfold ic70
 refine za5 (za0 rfl (zd3 rfl rfl (za1 rfl (za3 (za2 ?_)))))
 refine zbf [] [(0, 0, [.int .i64 (m : Nat), .vs (cE (zai E))])] [(1, vsI (iL out)), (2, .int .i64 (v : Nat)), (3, .vptr [.int .i64 (m : Nat), .vs (cE (zai E))])] rfl (.cons rfl rfl .nil) .nil (.cons rfl (.same rfl) (.cons rfl (.same rfl) (.cons rfl (.fptr rfl rfl) .nil))) ?_
 repeat (first | refine za5 ?_ | refine za0 rfl ?_ | refine za3 ?_ | refine za2 ?_ | refine zaa ?_ | refine za1 rfl ?_)
 refine zba (fun mm S => ∃ i, mm = E.length - i ∧ i ≤ E.length ∧ (∀ u, (u, v) ∈ E.take i → u ∈ out) ∧ S = st 38 [(1, vsI (iL out)), (2, .int .i64 (v : Nat)), (3, .vptr [.int .i64 (m : Nat), .vs (cE (zai E))]), (7, .int .i64 (i : Nat))] [] 0 1) E.length
  (za7 (.cons rfl (.cons rfl (.cons rfl (.cons rfl .nil))))) ⟨0, rfl, Nat.zero_le _, fun u h => absurd h (by simp), rfl⟩ ?_
 rintro mm S ⟨i, rfl, hi, hok, rfl⟩
 unfold b70_0
 repeat (first | refine za5 ?_ | refine za0 rfl ?_ | refine za1 rfl ?_ | refine zaf rfl rfl ?_ | refine zac rfl rfl rfl ?_ | refine zbg rfl rfl ?_)
 refine zam rfl rfl rfl (fun h3 => ?_) fun h3 => ?_
 ·have hlt : i < E.length := by
   have h4 : ((i : Nat) : Int) < (((cE (zai E)).length : Nat) : Int) := of_decide_eq_true h3
   omega
  have w1 : IntKind.wrap .i64 (((i : Nat) : Int) + 1) = ((i + 1 : Nat) : Int) := zak i (by omega)
  have hg := zdq hlt
  have hts : E.take (i + 1) = E.take i ++ [(E[i].1, E[i].2)] := by rw [List.take_add_one, List.getElem?_eq_getElem hlt]; rfl
  have hmm : (E[i].1, E[i].2) ∈ E := List.getElem_mem hlt
  generalize E[i].1 = a at *
  generalize E[i].2 = b at *
  have nx : (b = v → a ∈ out) → ∀ u, (u, v) ∈ E.take (i + 1) → u ∈ out := fun h u hu => by
   rw [hts, List.mem_append, List.mem_singleton] at hu
   rcases hu with hu | hu
   ·exact hok u hu
   ·injection hu with h1 h2
    rw [h1]
    exact h h2.symm
  repeat (first | refine za5 ?_ | refine za0 rfl ?_ | refine za3 ?_ | refine za2 ?_ | refine zaa ?_ | refine zad ?_ | refine zbt rfl ?_ | refine za1 rfl ?_ | refine zaf rfl rfl ?_ | refine zac rfl rfl rfl ?_ | refine zb1 rfl rfl (by omega) (by assumption) rfl ?_)
  refine zam rfl rfl rfl (fun h4 => ?_) fun h4 => ?_
  ·have h4 : b = v := Int.ofNat_inj.1 (by simpa using h4)
   repeat (first | refine zd4 rfl ?_ | refine za1 rfl ?_ | refine zaf rfl rfl ?_ | refine zac rfl rfl rfl ?_ | refine zb1 rfl rfl (by omega) (by assumption) rfl ?_)
   refine zas rfl rfl (p74 a) (fun h => Bool.noConfusion (show false = true from h)) ?_
   cases hc : out.contains a with
   | true =>
    repeat (first | refine za0 rfl ?_ | refine za3 ?_ | refine za2 ?_ | refine zb7 ?_ | refine zad ?_ | refine zbm rfl ?_ | refine zd4 rfl ?_ | refine za1 rfl ?_ | refine zal rfl rfl ?_ | refine zpx rfl rfl ?_ | refine zaz (op := .add) rfl rfl rfl ?_)
    rw [w1]
    exact zaj (show E.length - (i + 1) < E.length - i by omega) (za7 (.cons rfl (.cons rfl (.cons rfl (.cons rfl .nil))))) ⟨i + 1, rfl, hlt, nx fun _ => List.contains_iff_mem.1 hc, rfl⟩
   | false =>
    rw [show zov E out v = false from by
     cases hr : zov E out v with
     | false => rfl
     | true =>
      have := (zf0.1 hr).1 a (h4 ▸ hmm)
      rw [List.contains_iff_mem.2 this] at hc
      cases hc]
    repeat (first | refine za5 ?_ | refine za0 rfl ?_ | refine za3 ?_ | refine za2 ?_ | refine zbt rfl ?_ | refine zat ?_ | refine zag ?_ | refine zb4 ?_ | refine zd4 rfl ?_ | refine za1 rfl ?_ | refine zal rfl rfl ?_ | refine zpx rfl rfl ?_)
    exact zao ⟨.inr rfl, _, rfl, rfl⟩
  ·have h4 : ¬ b = v := fun e => (show ¬ ((b : Nat) : Int) = (v : Nat) by simpa using h4) (by rw [e])
   repeat (first | refine za0 rfl ?_ | refine za3 ?_ | refine za2 ?_ | refine zb7 ?_ | refine zad ?_ | refine zbm rfl ?_ | refine zik rfl rfl ?_ | refine za1 rfl ?_ | refine zax rfl rfl ?_ | refine zaz (op := .add) rfl rfl rfl ?_)
   rw [w1]
   exact zaj (show E.length - (i + 1) < E.length - i by omega) (za7 (.cons rfl (.cons rfl (.cons rfl (.cons rfl .nil))))) ⟨i + 1, rfl, hlt, nx fun e => absurd e h4, rfl⟩
 ·have hie : i = E.length := by
   have h4 : ¬ ((i : Nat) : Int) < (((cE (zai E)).length : Nat) : Int) := of_decide_eq_false h3
   omega
  subst hie
  rw [List.take_length] at hok
  rw [show zov E out v = !out.contains v from by
   cases hc : out.contains v with
   | true =>
    cases hr : zov E out v with
    | false => rfl
    | true => exact absurd (List.contains_iff_mem.1 hc) (zf0.1 hr).2
   | false =>
    exact zf0.2 ⟨hok, fun h => by rw [List.contains_iff_mem.2 h] at hc; cases hc⟩]
  repeat (first | refine za3 ?_ | refine za2 ?_ | refine zbm rfl ?_ | refine zb9 ?_ | refine zab ?_)
  refine zc8 ?_
  repeat (first | refine za5 ?_ | refine za0 rfl ?_ | refine za2 ?_ | refine zb8 ?_ | refine za1 rfl ?_)
  refine zas rfl rfl (p74 v) (fun h => Bool.noConfusion (show false = true from h)) ?_
  repeat (first | refine za3 ?_ | refine za2 ?_ | refine zat ?_ | refine za1 rfl ?_ | refine zpx rfl rfl ?_)
  exact zao ⟨.inr rfl, _, rfl, rfl⟩
theorem zu0 {α : Type} {a a' b b' c c' : α} (h1 : a = a') (h2 : b = b') (h3 : c = c') : [a, b, c] = [a', b', c'] := by rw [h1, h2, h3]
def b59_2 : IC := .seq (.seq (.region [⟨(some 14), .mov (.t 5), none⟩,
  ⟨(some 15), .bin .geq (.t 14) (.c (.int .i64 0)), none⟩] none)
 (.cond (.t 15) (.skip)
 (.exit 2)))
 (.seq (.block 3 (.seq (.region [⟨(some 18), .load (some 2) (.t 1), none⟩,
  ⟨(some 19), .mov (.t 3), none⟩,
  ⟨(some 20), .mov (.t 5), none⟩,
  ⟨(some 21), .call (.c (.fn 70 [] [])) [(.t 18), (.t 19), (.t 20)], none⟩] none)
 (.cond (.t 21) (.region [⟨(some 22), .mov (.t 5), none⟩,
  ⟨(some 4), .mov (.t 22), none⟩] none)
 (.skip))))
 (.region [⟨(some 16), .mov (.t 5), none⟩,
  ⟨(some 17), .bin .sub (.t 16) (.c (.int .i64 1)), none⟩,
  ⟨(some 5), .mov (.t 17), none⟩] none))
def b59_0 : IC := .seq (.seq (.region [⟨(some 6), .mov (.t 3), none⟩,
  ⟨(some 7), .len false (.t 6), none⟩,
  ⟨(some 8), .faddr 0 (.t 1), none⟩,
  ⟨(some 9), .load none (.t 8), none⟩,
  ⟨(some 10), .bin .lss (.t 7) (.t 9), none⟩] none)
 (.cond (.t 10) (.skip)
 (.exit 0)))
 (.block 1 (.seq (.region [⟨(some 4), .mov (.c (.int .i64 (-1))), none⟩] none)
 (.seq (.seq (.region [⟨(some 11), .faddr 0 (.t 1), none⟩,
  ⟨(some 12), .load none (.t 11), none⟩,
  ⟨(some 13), .bin .sub (.t 12) (.c (.int .i64 1)), none⟩,
  ⟨(some 5), .mov (.t 13), none⟩] none)
 (.block 2 (.loop b59_2)))
 (.region [⟨(some 23), .mov (.t 3), none⟩,
  ⟨(some 24), .mov (.t 4), none⟩,
  ⟨(some 25), .bslice 1 1 [.int .i64 0] [(0, 1, (.t 24))], none⟩,
  ⟨(some 26), .append 1 8 [.int .i64 0] (.t 23) (.t 25), none⟩,
  ⟨(some 3), .mov (.t 26), none⟩] none))))
-- pneumatic/pneumaticref10.Sorted
def ic59 : IC := .seq (.region [⟨(some 1), .box (.t 0), none⟩,
  ⟨(some 2), .mov (.c (.nils)), none⟩] none)
 (.seq (.region [⟨(some 3), .mov (.c (.nils)), none⟩] none)
 (.seq (.block 0 (.loop b59_0))
 (.seq (.region [⟨(some 27), .mov (.t 3), none⟩,
  ⟨(some 2), .mov (.t 27), none⟩] none)
 (.ret))))
theorem fn59 : env0.fn 59 = some ⟨28, ic59, [.t 2]⟩ := by kernel_rfl
set_option maxHeartbeats 4000000 in
theorem sorted59 (m : Nat) (hm : m ≤ 256) (E : List (Nat × Nat)) (hE : E.length ≤ 5000) (L : List Nat) (hL : zgr E m m [] = some L) : PF Try.prog 59 [cG (m : Nat) (zai E)] (vsI (iL L)) := by
 refine zav env0_ok fn59 [(0, .agg [.int .i64 (m : Nat), .vs (cE (zai E))])] (by show 1 ≤ 28; decide) rfl fun w0 N0 => ?_
 unfold ic59
 refine za5 (za0 rfl (zd3 rfl rfl (za1 rfl (za3 (za2 ?_)))))
 refine zbf [] [(0, 0, [.int .i64 (m : Nat), .vs (cE (zai E))])] [(1, .vptr [.int .i64 (m : Nat), .vs (cE (zai E))])] rfl (.cons rfl rfl .nil) .nil (.cons rfl (.fptr rfl rfl) .nil) ?_
 repeat (first | refine za5 ?_ | refine za0 rfl ?_ | refine za3 ?_ | refine za2 ?_ | refine zaa ?_ | refine za1 rfl ?_)
 refine z_grow 3 1 rfl ?_
 refine zba (fun mm S => ∃ out hp nx ck sp, mm = m - out.length ∧ out.length ≤ m ∧ zgr E m (m - out.length) out = some L ∧ 0 < nx ∧ Am.look 0 hp = some (sp, .cells ((iL out).map (AV.int .i64))) ∧ S = st 28 [(1, .vptr [.int .i64 (m : Nat), .vs (cE (zai E))]), (3, .ms 0 sp 1 0 out.length none)] hp nx ck) m
  (za7 (.cons rfl (.cons rfl .nil))) ⟨[], _, _, _, _, rfl, Nat.zero_le _, hL, Nat.zero_lt_one, rfl, rfl⟩ ?_
 rintro mm S ⟨out, hp, nx, ck, sp, rfl, hol, hS, hnx, hk, rfl⟩
 unfold b59_0
 repeat (first | refine za5 ?_ | refine za0 rfl ?_ | refine za1 rfl ?_ | refine zaf rfl rfl ?_ | refine zac rfl rfl rfl ?_ | refine zbg rfl rfl ?_)
 refine zam rfl rfl rfl (fun h3 => ?_) fun h3 => ?_
 ·have hlt : out.length < m := Int.ofNat_lt.1 (of_decide_eq_true h3)
  have w1 : IntKind.wrap .i64 (((m : Nat) : Int) - 1) = ((m : Nat) : Int) - 1 := zch _ (by omega) (by omega)
  have p70 := fun v => ready70 m E hE out (by omega) v
  rw [show m - out.length = (m - out.length - 1) + 1 by omega, zgr] at hS
  obtain ⟨x, hx, hS⟩ : ∃ x, nxS E m out = some x ∧ zgr E m (m - out.length - 1) (out ++ [x]) = some L := by
   cases hx : nxS E m out with
   | none => rw [hx] at hS; cases hS
   | some x => rw [hx] at hS; exact ⟨x, rfl, hS⟩
  have hdn : dnx (zov E out) m 0 = (x : Nat) := by
   unfold dnx
   unfold nxS at hx
   rw [List.drop_zero, hx]
  repeat (first | refine za5 ?_ | refine za0 rfl ?_ | refine za3 ?_ | refine za2 ?_ | refine zaa ?_ | refine zad ?_ | refine zbt rfl ?_ | refine za1 rfl ?_ | refine zaf rfl rfl ?_ | refine zac rfl rfl rfl ?_ | refine zaz (op := .sub) rfl rfl rfl ?_)
  rw [w1]
  refine zba (fun mm S => ∃ w : Nat, mm = w ∧ w ≤ m ∧ S = st 28 [(1, .vptr [.int .i64 (m : Nat), .vs (cE (zai E))]), (3, .ms 0 sp 1 0 out.length none), (4, .int .i64 (dnx (zov E out) m w)), (5, .int .i64 ((w : Nat) - 1))] hp nx ck) m
   (za7 (.cons rfl (.cons rfl (.cons rfl (.cons rfl .nil))))) ⟨m, rfl, Nat.le_refl _, by rw [zhi]⟩ ?_
  rintro w S ⟨_, rfl, hw, rfl⟩
  unfold b59_2
  repeat (first | refine za5 ?_ | refine za0 rfl ?_ | refine za1 rfl ?_)
  refine zam rfl rfl rfl (fun h4 => ?_) fun h4 => ?_
  ·obtain ⟨w, rfl⟩ : ∃ v, w = v + 1 := by
    have h5 : ((w : Nat) : Int) - 1 ≥ 0 := of_decide_eq_true h4
    exact ⟨w - 1, by omega⟩
   have e1 : (((w + 1 : Nat) : Int) - 1) = (w : Nat) := by omega
   have w2 : IntKind.wrap .i64 (((w : Nat) : Int) - 1) = ((w : Nat) : Int) - 1 := zch _ (by omega) (by omega)
   have hds := zfr (P := zov E out) (m := m) (i := w) (by omega)
   rw [e1]
   repeat (first | refine za5 ?_ | refine za0 rfl ?_ | refine za3 ?_ | refine za2 ?_ | refine zaa ?_ | refine zad ?_ | refine zbt rfl ?_ | refine za1 rfl ?_ | refine zaq rfl rfl rfl rfl ?_)
   refine zas rfl (zu0 rfl (zbl (d := 3) _ (zee out) hk) rfl) (p70 w) (fun _ => rfl) ?_
   cases hr : zov E out w with
   | true =>
    rw [hr, if_pos rfl] at hds
    repeat (first | refine za0 rfl ?_ | refine za3 ?_ | refine za2 ?_ | refine zb7 ?_ | refine zbt rfl ?_ | refine za1 rfl ?_ | refine zaz (op := .sub) rfl rfl rfl ?_)
    rw [w2]
    exact zaj (Nat.lt_succ_self w) (za7 (.cons rfl (.cons rfl (.cons rfl (.cons rfl .nil))))) ⟨w, rfl, by omega, by rw [hds]⟩
   | false =>
    rw [hr, if_neg Bool.false_ne_true] at hds
    repeat (first | refine za0 rfl ?_ | refine za3 ?_ | refine za2 ?_ | refine zb7 ?_ | refine zad ?_ | refine zbm rfl ?_ | refine za1 rfl ?_ | refine zaz (op := .sub) rfl rfl rfl ?_)
    rw [w2]
    exact zaj (Nat.lt_succ_self w) (za7 (.cons rfl (.cons rfl (.cons rfl (.cons rfl .nil))))) ⟨w, rfl, by omega, by rw [hds]⟩
  ·obtain rfl : w = 0 := by
    have h5 : ¬ ((w : Nat) : Int) - 1 ≥ 0 := of_decide_eq_false h4
    omega
   rw [hdn]
   repeat (first | refine za3 ?_ | refine za2 ?_ | refine zbm rfl ?_ | refine zb9 ?_ | refine zab ?_)
   refine zc8 ?_
   repeat (first | refine za0 rfl ?_ | refine za2 ?_ | refine zb8 ?_ | refine za1 rfl ?_ | refine zby rfl rfl ?_)
   have hel : ∀ l : List (Nat × AV), (st 28 l ((nx, ck, AObj.cells [.int .i64 (x : Nat)]) :: hp) (nx + 1) (ck + 1) []).elems 1 (.ms nx ck 1 0 1 (some 1)) = some [[.int .i64 (x : Nat)]] := fun l => zd9 (xs := [[.int .i64 (x : Nat)]]) (ys := []) zb6 rfl fun x hx => by obtain rfl := List.mem_singleton.1 hx; rfl
   refine zdf [[.int .i64 (x : Nat)]] rfl rfl (hel _) (fun h => Nat.noConfusion h) rfl (by decide) (by rw [za9, if_neg (by omega)]; exact hk) (by rw [List.length_map, zee, Nat.mul_one]) (by show _ + 1 ≤ _; omega) ?_ (fun _ _ _ _ _ _ _ => rfl)
   rw [show out.length + [[AV.int .i64 (x : Nat)]].length = (out ++ [x]).length by rw [List.length_append]; rfl]
   repeat (first | refine za3 ?_ | refine zb7 ?_ | refine za1 rfl ?_)
   refine zaj (show m - (out ++ [x]).length < m - out.length by rw [List.length_append, List.length_singleton]; omega) (za7 (.cons rfl (.cons rfl .nil))) ⟨out ++ [x], _, _, _, _, rfl, by rw [List.length_append, List.length_singleton]; omega, by rw [List.length_append, List.length_singleton, ← Nat.sub_sub]; exact hS, Nat.succ_pos _, by rw [za8, if_pos rfl, zs4, List.map_append]; rfl, rfl⟩
 ·have hie : out.length = m := by
   have h4 : ¬ ((out.length : Nat) : Int) < ((m : Nat) : Int) := of_decide_eq_false h3
   omega
  rw [hie, Nat.sub_self] at hS
  obtain rfl : out = L := Option.some.inj hS
  repeat (first | refine za3 ?_ | refine za2 ?_ | refine zbm rfl ?_ | refine zb9 ?_ | refine zab ?_)
  refine zc8 ?_
  repeat (first | refine za5 ?_ | refine za0 rfl ?_ | refine za3 ?_ | refine za2 ?_ | refine zat ?_ | refine zb8 ?_ | refine za1 rfl ?_)
  exact zao ⟨.inr rfl, _, rfl, zbl _ (zee out) hk⟩
end Go.Proofs.Ytoagikifehmlpaa
