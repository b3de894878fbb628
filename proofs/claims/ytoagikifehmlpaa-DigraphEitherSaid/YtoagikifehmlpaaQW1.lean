/-
  THE EXAMPLES OF THE CHAPTER.
-/
import Derived.Test.YtoagikifehmlpaaQC1
namespace Go.Proofs.Ytoagikifehmlpaa
open Go Go.Am
def smp : List (Nat × Nat) := [(0, 2), (2, 1), (1, 0), (2, 3), (0, 3)]
def smr : List (Nat × Nat) := [(2, 0), (1, 2), (0, 1), (3, 2), (3, 0)]
def smb : List (Nat × Nat) := [(0, 1), (0, 1)]
def smo : List (Nat × Nat) := [(3, 1), (1, 0), (3, 0), (2, 0)]
def tab1 : Tab := [(45, [
 ([.agg [.int .i64 5, .vs [[.int .i64 0, .int .i64 2], [.int .i64 2, .int .i64 1], [.int .i64 1, .int .i64 0], [.int .i64 2, .int .i64 3], [.int .i64 0, .int .i64 3]]]], .vs [[.vs [[.int .i64 2], [.int .i64 3]]], [.vs [[.int .i64 0]]], [.vs [[.int .i64 1], [.int .i64 3]]], [.vs []], [.vs []]]),
 ([.agg [.int .i64 5, .vs [[.int .i64 2, .int .i64 0], [.int .i64 1, .int .i64 2], [.int .i64 0, .int .i64 1], [.int .i64 3, .int .i64 2], [.int .i64 3, .int .i64 0]]]], .vs [[.vs [[.int .i64 1]]], [.vs [[.int .i64 2]]], [.vs [[.int .i64 0]]], [.vs [[.int .i64 0], [.int .i64 2]]], [.vs []]]),
 ([.agg [.int .i64 3, .vs [[.int .i64 0, .int .i64 1], [.int .i64 0, .int .i64 1]]]], .vs [[.vs [[.int .i64 1]]], [.vs []], [.vs []]]),
 ([.agg [.int .i64 4, .vs [[.int .i64 3, .int .i64 1], [.int .i64 1, .int .i64 0], [.int .i64 3, .int .i64 0], [.int .i64 2, .int .i64 0]]]], .vs [[.vs []], [.vs [[.int .i64 0]]], [.vs [[.int .i64 0]]], [.vs [[.int .i64 0], [.int .i64 1]]]])])]
theorem inR (m : Nat) (E : List (Nat × Nat)) (h : (E.all fun e => Nat.blt e.1 m && Nat.blt e.2 m) = true) : ∀ u v, (u, v) ∈ E → u < m ∧ v < m := fun u v hm => by
 have := List.all_eq_true.1 h _ hm
 rw [Bool.and_eq_true] at this
 exact ⟨Nat.le_of_ble_eq_true this.1, Nat.le_of_ble_eq_true this.2⟩
theorem zes : TabOk Try.prog tab1 := by
 intro x hx y hy
 unfold tab1 at hx
 obtain rfl := List.mem_singleton.1 hx
 simp only [List.mem_cons, List.not_mem_nil, or_false] at hy
 rcases hy with rfl | rfl | rfl | rfl
 ·have := ze3 5 (by decide) smp (by decide) (inR 5 smp (by decide))
  rw [show cN smp 5 = _ from (by kernel_rfl : cN smp 5 = .vs [[.vs [[.int .i64 2], [.int .i64 3]]], [.vs [[.int .i64 0]]], [.vs [[.int .i64 1], [.int .i64 3]]], [.vs []], [.vs []]])] at this
  exact this
 ·have := ze3 5 (by decide) smr (by decide) (inR 5 smr (by decide))
  rw [show cN smr 5 = _ from (by kernel_rfl : cN smr 5 = .vs [[.vs [[.int .i64 1]]], [.vs [[.int .i64 2]]], [.vs [[.int .i64 0]]], [.vs [[.int .i64 0], [.int .i64 2]]], [.vs []]])] at this
  exact this
 ·have := ze3 3 (by decide) smb (by decide) (inR 3 smb (by decide))
  rw [show cN smb 3 = _ from (by kernel_rfl : cN smb 3 = .vs [[.vs [[.int .i64 1]]], [.vs []], [.vs []]])] at this
  exact this
 ·have := ze3 4 (by decide) smo (by decide) (inR 4 smo (by decide))
  rw [show cN smo 4 = _ from (by kernel_rfl : cN smo 4 = .vs [[.vs []], [.vs [[.int .i64 0]]], [.vs [[.int .i64 0]]], [.vs [[.int .i64 0], [.int .i64 1]]]])] at this
  exact this
def gcA : List AV := [.int .i64 5, .vs [[.int .i64 0, .int .i64 2], [.int .i64 2, .int .i64 1], [.int .i64 1, .int .i64 0], [.int .i64 2, .int .i64 3], [.int .i64 0, .int .i64 3]]]
def tab47 : Tab := [(47, [([.agg gcA], .agg [.int .i64 5, .vs [[.int .i64 2, .int .i64 0], [.int .i64 1, .int .i64 2], [.int .i64 0, .int .i64 1], [.int .i64 3, .int .i64 2], [.int .i64 3, .int .i64 0]]])])]
theorem tab47_ok : TabOk Try.prog tab47 := TabOk.of_run (env0_ok.tab TabOk.nil (pure := [])) (n := 80) (by kernel_rfl)
noncomputable def ca43_0 : Code := match env0.fn 43 with
 | some i => ((zdj i.ic)[0]?.getD (.skip, .skip)).1
 | none => .skip
noncomputable def cb43_0 : Code := match env0.fn 43 with
 | some i => ((zdj i.ic)[0]?.getD (.skip, .skip)).2
 | none => .skip
def b43_0 : IC := .seq (.region [⟨(some 31), .bin .lss (.t 30) (.t 29), none⟩] none)
 (.seq (.cond (.t 31) (.skip)
 (.exit 0))
 (.seq (.block 1 (.seq (.region [⟨(some 32), .mov (.t 30), none⟩,
  ⟨(some 9), .mov (.t 32), none⟩] none)
 (.region [⟨(some 33), .load none (.t 8), none⟩,
  ⟨(some 34), .mov (.t 9), none⟩,
  ⟨(some 35), .call (.t 33) [(.t 34)], none⟩] none)))
 (.region [⟨(some 36), .bin .add (.t 30) (.c (.int .i64 1)), none⟩,
  ⟨(some 30), .mov (.t 36), none⟩] none)))
def b43_4 : IC := .seq (.region [⟨(some 54), .bin .lss (.t 53) (.t 52), none⟩] none)
 (.seq (.cond (.t 54) (.skip)
 (.exit 4))
 (.seq (.block 5 (.seq (.region [⟨(some 55), .mov (.t 53), none⟩,
  ⟨(some 56), .idxs 1 (.t 51) (.t 53), none⟩,
  ⟨(some 57), .load none (.t 56), none⟩,
  ⟨(some 15), .mov (.t 55), none⟩,
  ⟨(some 16), .mov (.t 57), none⟩] none)
 (.seq (.seq (.region [⟨(some 59), .mov (.t 14), none⟩,
  ⟨(some 60), .mov (.t 16), none⟩,
  ⟨(some 61), .mapget .int (.int .i64 0) true (.t 59) (.t 60), none⟩,
  ⟨(some 58), .mov (.t 61), none⟩,
  ⟨(some 62), .extract (.t 58) 0, none⟩,
  ⟨(some 63), .extract (.t 58) 1, none⟩,
  ⟨(some 17), .mov (.t 62), none⟩,
  ⟨(some 18), .mov (.t 63), none⟩] none)
 (.seq (.region [⟨(some 64), .mov (.t 18), none⟩,
  ⟨(some 65), .un .not (.t 64), none⟩] none)
 (.cond (.t 65) (.region [⟨(some 66), .mov (.t 14), none⟩,
  ⟨(some 67), .mov (.t 16), none⟩,
  ⟨(some 68), .mov (.t 14), none⟩,
  ⟨(some 69), .mapget .int (.top) false (.t 68) (.c (.int .i64 0)), none⟩,
  ⟨none, .mapset .int (.t 66) (.t 67) (.t 69), none⟩] none)
 (.skip))))
 (.region [⟨(some 70), .load none (.t 10), none⟩,
  ⟨(some 71), .mov (.t 15), none⟩,
  ⟨(some 72), .mov (.t 14), none⟩,
  ⟨(some 73), .mov (.t 16), none⟩,
  ⟨(some 74), .mapget .int (.int .i64 0) false (.t 72) (.t 73), none⟩,
  ⟨(some 75), .idxs 1 (.t 70) (.t 71), none⟩,
  ⟨none, .store 1 (.t 75) (.t 74), none⟩] none))))
 (.region [⟨(some 76), .bin .add (.t 53) (.c (.int .i64 1)), none⟩,
  ⟨(some 53), .mov (.t 76), none⟩] none)))
def asg43_0 : IC := .seq (.region [⟨(some 12), .mov (.t 44), none⟩] none)
 (.region [⟨(some 13), .mov (.t 45), none⟩] none)
def rb43_0 : IC := .block 3 (.region [⟨(some 46), .load none (.t 11), none⟩,
  ⟨(some 47), .mov (.t 13), none⟩,
  ⟨(some 48), .mov (.t 12), none⟩,
  ⟨(some 49), .call (.t 46) [(.t 47), (.t 48)], none⟩] none)
-- pneumatic/digraph.components
noncomputable def ic43 : IC := .seq (.region [⟨(some 1), .box (.t 0), none⟩,
  ⟨(some 2), .mov (.c (.nils)), none⟩,
  ⟨(some 3), .mov (.c (.int .i64 0)), none⟩] none)
 (.seq (.region [⟨(some 19), .load (some 2) (.t 1), none⟩,
  ⟨(some 20), .call (.c (.fn 45 [] [])) [(.t 19)], none⟩,
  ⟨(some 21), .load (some 2) (.t 1), none⟩,
  ⟨(some 22), .call (.c (.fn 47 [] [])) [(.t 21)], none⟩,
  ⟨(some 23), .call (.c (.fn 45 [] [])) [(.t 22)], none⟩,
  ⟨(some 4), .alloc [.nils], none⟩,
  ⟨(some 5), .alloc [.nils], none⟩,
  ⟨none, .store 1 (.t 4) (.t 20), none⟩,
  ⟨none, .store 1 (.t 5) (.t 23), none⟩] (some [[], [0], [], [2, 1], [3, 3], [], [], [5, 1, 4, 0, 1, 5, 6], [6, 4, 7, 0, 1, 2, 3, 4, 5, 6, 7]]))
 (.seq (.region [⟨(some 24), .faddr 0 (.t 1), none⟩,
  ⟨(some 25), .load none (.t 24), none⟩,
  ⟨(some 26), .mkslice 1 1 [.bool false] (.t 25) (.t 25), none⟩,
  ⟨(some 6), .alloc [.nils], none⟩,
  ⟨none, .store 1 (.t 6) (.t 26), none⟩] none)
 (.seq (.region [⟨(some 7), .alloc [.nils], none⟩] none)
 (.seq (.region [⟨(some 8), .alloc [.nilf], none⟩] none)
 (.seq (.region [⟨(some 27), .mkfn 60 [] [(.t 6), (.t 4), (.t 8), (.t 7)], none⟩,
  ⟨none, .store 1 (.t 8) (.t 27), none⟩] none)
 (.seq (.seq (.region [⟨(some 28), .load none (.t 4), none⟩,
  ⟨(some 29), .len false (.t 28), none⟩,
  ⟨(some 30), .mov (.c (.int .i64 0)), none⟩] none)
 (.block 0 (.loop b43_0)))
 (.seq (.region [⟨(some 37), .bslice 1 1 [.int .i64 0] [(0, 1, (.c (.int .i64 (-1))))], none⟩,
  ⟨(some 38), .faddr 0 (.t 1), none⟩,
  ⟨(some 39), .load none (.t 38), none⟩,
  ⟨(some 40), .call (.c (.fn 61 [] [])) [(.t 37), (.t 39)], none⟩,
  ⟨(some 10), .alloc [.nils], none⟩,
  ⟨none, .store 1 (.t 10) (.t 40), none⟩] none)
 (.seq (.region [⟨(some 11), .alloc [.nilf], none⟩] none)
 (.seq (.region [⟨(some 41), .mkfn 62 [] [(.t 10), (.t 5), (.t 11)], none⟩,
  ⟨none, .store 1 (.t 11) (.t 41), none⟩] none)
 (.seq (.seq (.region [⟨(some 42), .load none (.t 7), none⟩,
  ⟨(some 43), .call (.c (.fn 63 [] [])) [(.t 42)], none⟩] none)
 (.block 2 (.rangeFunc (.t 43) [44, 45] ca43_0 cb43_0 asg43_0 rb43_0)))
 (.seq (.region [⟨(some 50), .mkmap, none⟩,
  ⟨(some 14), .mov (.t 50), none⟩] none)
 (.seq (.seq (.region [⟨(some 51), .load none (.t 10), none⟩,
  ⟨(some 52), .len false (.t 51), none⟩,
  ⟨(some 53), .mov (.c (.int .i64 0)), none⟩] none)
 (.block 4 (.loop b43_4)))
 (.seq (.region [⟨(some 77), .load none (.t 10), none⟩,
  ⟨(some 78), .mov (.t 14), none⟩,
  ⟨(some 79), .mapget .int (.top) false (.t 78) (.c (.int .i64 0)), none⟩,
  ⟨(some 2), .mov (.t 77), none⟩,
  ⟨(some 3), .mov (.t 79), none⟩] none)
 (.ret))))))))))))))
theorem fn43 : env0.fn 43 = some ⟨80, ic43, [.t 2, .t 3]⟩ := by kernel_rfl
def netA : AV := .vs [[.vs [[.int .i64 2], [.int .i64 3]]], [.vs [[.int .i64 0]]], [.vs [[.int .i64 1], [.int .i64 3]]], [.vs []], [.vs []]]
def netB : AV := .vs [[.vs [[.int .i64 1]]], [.vs [[.int .i64 2]]], [.vs [[.int .i64 0]]], [.vs [[.int .i64 0], [.int .i64 2]]], [.vs []]]
def revA : AV := .agg [.int .i64 5, .vs [[.int .i64 2, .int .i64 0], [.int .i64 1, .int .i64 2], [.int .i64 0, .int .i64 1], [.int .i64 3, .int .i64 2], [.int .i64 3, .int .i64 0]]]
theorem p1A : PF Try.prog 45 [.agg gcA] netA := zes _ (List.mem_cons_self ..) _ (List.mem_cons_self ..)
theorem p2A : PF Try.prog 47 [.agg gcA] revA := tab47_ok _ (List.mem_cons_self ..) _ (List.mem_cons_self ..)
theorem p3A : PF Try.prog 45 [revA] netB := zes _ (List.mem_cons_self ..) _ (List.mem_cons_of_mem _ (List.mem_cons_self ..))
theorem comps43 : PF Try.prog 43 [.agg gcA] (.tup [.vs [[.int .i64 0], [.int .i64 0], [.int .i64 0], [.int .i64 1], [.int .i64 2]], .int .i64 3]) := by
 refine zb4 env0_ok fn43 [(0, .agg gcA)] (by show 1 ≤ 80; decide) rfl fun w0 N0 => ?_
 unfold ic43
 refine za6 (za0 rfl (ze8 (cs := gcA) rfl rfl (za2 rfl (za2 rfl (za5 (za3 ?_))))))
 refine zby [] [(0, 0, gcA)] (zfh gcA) rfl (.cons rfl rfl .nil) .nil (.cons rfl (.fptr rfl rfl) .nil) ?_
 refine za6 (nets43 gcA netA revA netB rfl rfl rfl rfl rfl rfl rfl rfl rfl (fun S => rfl) (fun S => rfl) p1A p2A p3A ?_)
 exact z_endrun (env0_ok.tab TabOk.nil (pure := [])) 80 (fi := ⟨80, ic43, [.t 2, .t 3]⟩) (by kernel_rfl)
def tab43 : Tab := [(43, [([.agg gcA], .tup [.vs [[.int .i64 0], [.int .i64 0], [.int .i64 0], [.int .i64 1], [.int .i64 2]], .int .i64 3])])]
theorem tab43_ok : TabOk Try.prog tab43 := by
 intro x hx y hy
 unfold tab43 at hx
 obtain rfl := List.mem_singleton.1 hx
 obtain rfl := List.mem_singleton.1 hy
 exact comps43
def tab22 : Tab := [(22, [([.agg [.int .i64 5, .vs [[.int .i64 0, .int .i64 2], [.int .i64 2, .int .i64 1], [.int .i64 1, .int .i64 0], [.int .i64 2, .int .i64 3], [.int .i64 0, .int .i64 3]]], .int .i64 1], .tup [.vs [[.int .i64 (1)], [.int .i64 (0)], [.int .i64 (2)], [.int .i64 (2)], [.int .i64 (-1)]], .int .i64 0])])]
theorem tab22_ok : TabOk Try.prog tab22 := TabOk.of_run (env0_ok.tab (tab43_ok.append zes) (pure := [])) (n := 80) (by kernel_rfl)
def tab27 : Tab := [(27, [([.agg [.int .i64 5, .vs [[.int .i64 0, .int .i64 2], [.int .i64 2, .int .i64 1], [.int .i64 1, .int .i64 0], [.int .i64 2, .int .i64 3], [.int .i64 0, .int .i64 3]]], .int .i64 2, .int .i64 0], .tup [.vs [[.int .i64 (2)], [.int .i64 (1)], [.int .i64 (0)]], .int .i64 0])])]
theorem tab27_ok : TabOk Try.prog tab27 := TabOk.of_run (env0_ok.tab (tab43_ok.append zes) (pure := [])) (n := 80) (by kernel_rfl)
def tab21 : Tab := [(21, [([.agg [.int .i64 5, .vs [[.int .i64 0, .int .i64 2], [.int .i64 2, .int .i64 1], [.int .i64 1, .int .i64 0], [.int .i64 2, .int .i64 3], [.int .i64 0, .int .i64 3]]]], .tup [.vs [[.int .i64 (0)], [.int .i64 (2)], [.int .i64 (1)]], .int .i64 0])])]
theorem tab21_ok : TabOk Try.prog tab21 := TabOk.of_run (env0_ok.tab (tab43_ok.append zes) (pure := [])) (n := 80) (by kernel_rfl)
def tab13 : Tab := [(13, [([.agg [.int .i64 5, .vs [[.int .i64 0, .int .i64 2], [.int .i64 2, .int .i64 1], [.int .i64 1, .int .i64 0], [.int .i64 2, .int .i64 3], [.int .i64 0, .int .i64 3]]]], .tup [.vs [[.vs [[.int .i64 (0)], [.int .i64 (1)], [.int .i64 (2)]]], [.vs [[.int .i64 (3)]]], [.vs [[.int .i64 (4)]]]], .int .i64 0])])]
theorem tab13_ok : TabOk Try.prog tab13 := TabOk.of_run (env0_ok.tab (tab43_ok.append zes) (pure := [])) (n := 80) (by kernel_rfl)
def tab15 : Tab := [(15, [([.agg [.int .i64 5, .vs [[.int .i64 0, .int .i64 2], [.int .i64 2, .int .i64 1], [.int .i64 1, .int .i64 0], [.int .i64 2, .int .i64 3], [.int .i64 0, .int .i64 3]]]], .tup [.agg [.int .i64 3, .vs [[.int .i64 0, .int .i64 1]]], .vs [[.int .i64 (0)], [.int .i64 (0)], [.int .i64 (0)], [.int .i64 (1)], [.int .i64 (2)]], .int .i64 0])])]
theorem tab15_ok : TabOk Try.prog tab15 := TabOk.of_run (env0_ok.tab tab43_ok (pure := [])) (n := 80) (by kernel_rfl)
def tab23 : Tab := [(23, [([.agg [.int .i64 4, .vs [[.int .i64 3, .int .i64 1], [.int .i64 1, .int .i64 0], [.int .i64 3, .int .i64 0], [.int .i64 2, .int .i64 0]]]], .tup [.vs [[.int .i64 (2)], [.int .i64 (3)], [.int .i64 (1)], [.int .i64 (0)]], .int .i64 0])])]
theorem tab23_ok : TabOk Try.prog tab23 := TabOk.of_run (env0_ok.tab (tab43_ok.append zes) (pure := [])) (n := 80) (by kernel_rfl)
def tab41 : Tab := [(41, [([], .agg [.int .i64 5, .vs [[.int .i64 0, .int .i64 2], [.int .i64 2, .int .i64 1], [.int .i64 1, .int .i64 0], [.int .i64 2, .int .i64 3], [.int .i64 0, .int .i64 3]]])])]
theorem tab41_ok : TabOk Try.prog tab41 := TabOk.of_run (env0_ok.tab (tab43_ok.append zes) (pure := [])) (n := 80) (by kernel_rfl)
def tabB : Tab := tab41 ++ (tab23 ++ (tab15 ++ (tab13 ++ (tab21 ++ (tab27 ++ tab22)))))
theorem tabB_ok : TabOk Try.prog tabB := tab41_ok.append (tab23_ok.append (tab15_ok.append (tab13_ok.append (tab21_ok.append (tab27_ok.append tab22_ok)))))
def tabA : Tab := [
 (12, [
  ([], .bool true)])]
theorem tabA_ok : TabOk Try.prog tabA := TabOk.of_run (env0_ok.tab tabB_ok (pure := [])) (n := 80) (by kernel_rfl)
theorem zf4 : PF Try.prog 12 [] (.bool true) := tabA_ok _ (List.mem_cons_self ..) _ (List.mem_cons_self ..)
end Go.Proofs.Ytoagikifehmlpaa
