/-
  THE ORDER: Order and Layers walked.
-/
import Derived.Test.YtoagikifehmlpaaQK2
import Derived.Test.YtoagikifehmlpaaQG1
namespace Go.Proofs.Ytoagikifehmlpaa
open Go Go.Am
def ordN (m : Nat) (E : List (Nat × Nat)) : AV := match zm1 E m m [] with
 | some l => .tup [vsI (iL l), .int .i64 0]
 | none => .tup [.vs [], .int .i64 20]
def ordV (n : Int) (es : List (Int × Int)) : AV := if zdx n es = 0 then ordN n.toNat (es.map fun e => (e.1.toNat, e.2.toNat)) else .tup [.vs [], .int .i64 (zdx n es)]
theorem zsq {m : Nat} {E : List (Nat × Nat)} (h : zdx m (zal E) = 0) : ordV m (zal E) = ordN m E := by
 unfold ordV
 rw [if_pos h, zdp]
 rfl
theorem ordV_err {n : Int} {es : List (Int × Int)} (h : zdx n es ≠ 0) : ordV n es = .tup [.vs [], .int .i64 (zdx n es)] := if_neg h
theorem zg5 (n : Int) (es : List (Int × Int)) : zel n es [] = zdx n es := by
 unfold zel
 split
 ·rename_i h
  rw [h]
  rfl
 ·rfl
-- pneumatic/digraph.Order
def ic23 : IC := .seq (.region [⟨(some 1), .box (.t 0), none⟩,
  ⟨(some 2), .mov (.c (.nils)), none⟩,
  ⟨(some 3), .mov (.c (.int .i64 0)), none⟩] none)
 (.seq (.region [⟨(some 9), .load (some 2) (.t 1), none⟩,
  ⟨(some 10), .call (.c (.fn 46 [] [])) [(.t 9), (.c (.nils))], none⟩,
  ⟨(some 8), .mov (.t 10), none⟩,
  ⟨(some 11), .extract (.t 8) 0, none⟩,
  ⟨(some 12), .extract (.t 8) 1, none⟩,
  ⟨(some 4), .mov (.t 11), none⟩,
  ⟨(some 5), .mov (.t 12), none⟩] none)
 (.seq (.seq (.region [⟨(some 13), .mov (.t 5), none⟩,
  ⟨(some 14), .bin .neq (.t 13) (.c (.int .i64 0)), none⟩] none)
 (.cond (.t 14) (.seq (.region [⟨(some 15), .mov (.t 5), none⟩,
  ⟨(some 2), .mov (.c (.nils)), none⟩,
  ⟨(some 3), .mov (.t 15), none⟩] none)
 (.ret))
 (.skip)))
 (.seq (.region [⟨(some 17), .mov (.t 4), none⟩,
  ⟨(some 18), .call (.c (.fn 50 [] [])) [(.t 17)], none⟩,
  ⟨(some 16), .mov (.t 18), none⟩,
  ⟨(some 19), .extract (.t 16) 0, none⟩,
  ⟨(some 20), .extract (.t 16) 1, none⟩,
  ⟨(some 6), .mov (.t 19), none⟩,
  ⟨(some 7), .mov (.t 20), none⟩] none)
 (.seq (.seq (.region [⟨(some 21), .mov (.t 7), none⟩,
  ⟨(some 22), .un .not (.t 21), none⟩] none)
 (.cond (.t 22) (.seq (.region [⟨(some 2), .mov (.c (.nils)), none⟩,
  ⟨(some 3), .mov (.c (.int .i64 20)), none⟩] none)
 (.ret))
 (.skip)))
 (.seq (.region [⟨(some 23), .mov (.t 6), none⟩,
  ⟨(some 2), .mov (.t 23), none⟩,
  ⟨(some 3), .mov (.c (.int .i64 0)), none⟩] none)
 (.ret))))))
theorem fn23 : env0.fn 23 = some ⟨24, ic23, [.t 2, .t 3]⟩ := by kernel_rfl
set_option maxHeartbeats 1000000 in
theorem order23 (n : Int) (es : List (Int × Int)) : PF Try.prog 23 [cG n es] (ordV n es) := by
 have p46 := zhu n es [] (Nat.zero_le _)
 refine zb4 env0_ok fn23 [(0, .agg [.int .i64 n, .vs (cE es)])] (by show 1 ≤ 24; decide) rfl fun w0 N0 => ?_
 unfold ic23
 refine za6 (za0 rfl (ze8 rfl rfl (za2 rfl (za2 rfl (za5 (za3 ?_))))))
 refine zby [] [(0, 0, [.int .i64 n, .vs (cE es)])] [(1, .vptr [.int .i64 n, .vs (cE es)])] rfl (.cons rfl rfl .nil) .nil (.cons rfl (.fptr rfl rfl) .nil) ?_
 repeat (first | refine za6 ?_ | refine za0 rfl ?_ | refine zax rfl rfl rfl rfl ?_)
 refine zak rfl rfl p46 (fun h => Bool.noConfusion (show false = true from h)) ?_
 by_cases hg : zdx n es = 0
 ·obtain ⟨m, E, rfl, rfl, hm, _, hE, hb⟩ := zhe hg
  rw [zg4 ((zg5 _ _).trans hg), zsq hg]
  have p50 := sorted50 m hm E hb
  unfold srtV at p50
  unfold ordN
  repeat (first | refine za6 ?_ | refine za0 rfl ?_ | refine za5 ?_ | refine za3 ?_ | refine zad ?_ | refine zce rfl ?_ | refine za2 rfl ?_ | refine zav rfl rfl ?_ | refine zc0 rfl rfl rfl ?_)
  refine zak rfl rfl p50 (fun h => Bool.noConfusion (show false = true from h)) ?_
  cases zm1 E m m [] with
  | none =>
   repeat (first | refine za6 ?_ | refine za0 rfl ?_ | refine za5 ?_ | refine za3 ?_ | refine zcp rfl ?_ | refine zaq ?_ | refine zac ?_ | refine za2 rfl ?_ | refine zpr rfl rfl ?_ | refine zav rfl rfl ?_)
   exact zao ⟨.inr rfl, _, rfl, rfl⟩
  | some l =>
   repeat (first | refine za6 ?_ | refine za0 rfl ?_ | refine za5 ?_ | refine za3 ?_ | refine zad ?_ | refine zce rfl ?_ | refine zaq ?_ | refine za2 rfl ?_ | refine zpr rfl rfl ?_ | refine zav rfl rfl ?_)
   exact zao ⟨.inr rfl, _, rfl, rfl⟩
 ·have hg2 : ¬ zel n es [] = 0 := by rw [zg5]; exact hg
  rw [ze0 hg2, ordV_err hg, zg5]
  repeat (first | refine za6 ?_ | refine za0 rfl ?_ | refine za5 ?_ | refine za3 ?_ | refine za2 rfl ?_ | refine zav rfl rfl ?_)
  refine zau rfl rfl rfl (fun h => ?_) fun h => absurd (by simpa using h) hg
  repeat (first | refine za6 ?_ | refine za0 rfl ?_ | refine za5 ?_ | refine za3 ?_ | refine zcp rfl ?_ | refine zaq ?_ | refine zac ?_ | refine za2 rfl ?_)
  exact zao ⟨.inr rfl, _, rfl, rfl⟩
end Go.Proofs.Ytoagikifehmlpaa
