/-
  THE POSITIONS THAT ARE LOST: homing.Lost, a position's ends copied bit by bit.
-/
import Derived.Test.YtoiblgbaeglgoaaVH27
namespace Go.Proofs.Ytoiblgbaeglgoaa
open Go Go.Am

section
variable {P : Program} {w0 : World} {N0 : Nat} {k : List Fr} {Q : Exit → AS → Prop} {pf : Kn} {ios : List Opr} {n nx ck : Nat} {mk : List (Nat × Nat)} {md : Md} {l : List (Nat × AV)} {hp : List (Nat × Nat × AObj)}

theorem o_mks {d sz bytes : Nat} {z : List AV} {a c : Arg} {lv cv : Int} {kd kc : IntKind} (ha : argA a l = some (.int kd lv)) (hc : argA c l = some (.int kc cv)) (hb : 0 ≤ lv ∧ lv ≤ cv ∧ cv ≤ 1048576 ∧ bytes ≤ 16777216)
    (go : Om P w0 N0 md pf ios (st n ((d, .ms nx ck sz 0 lv.toNat (some cv.toNat)) :: l) ((nx, ck, .cells (repl cv.toNat z)) :: hp) (nx + 1) (ck + 1) mk) k Q) (hx : Ops pf (st n l hp nx ck mk) (.mkslice sz bytes z a c) := by exact trivial) :
    Om P w0 N0 md pf (⟨some d, .mkslice sz bytes z a c, none⟩ :: ios) (st n l hp nx ck mk) k Q :=
  o_op (by simp only [iop, arg_st, ha, hc, if_pos hb]; rfl) go hx

theorem zq {ic : IC} {q : Nat} (hq : mk.length = q) (live : Live) (fz : List (Nat × Nat × List AV)) (l' : List (Nat × AV)) (hok : okW (fz.map (·.1)) live = true) (hf : RnF hp fz) (h1 : RnH live fz hp live) (h2 : RnA live fz l l') (h : Zm P w0 N0 none ic (st n l' (enumW 0 live ++ defsW live.length q) (q + live.length) 1 (mksW live.length q)) k Q) : Zm P w0 N0 none ic (st n l hp nx ck mk) k Q := by
  subst hq
  exact z_renwm live fz l' hok hf h1 h2 h

theorem sq {l' : List (Nat × AV)} {hp' : List (Nat × Nat × AObj)} {nx' q : Nat} {mk' : List (Nat × Nat)} (hq : mk.length = q) (live : Live) (fz : List (Nat × Nat × List AV)) (hh : hp' = enumW 0 live ++ defsW live.length q) (hx : nx' = q + live.length) (hm : mk' = mksW live.length q) (hok : okW (fz.map (·.1)) live = true) (hf : RnF hp fz) (h1 : RnH live fz hp live) (h2 : RnA live fz l l') : Sub0 w0 N0 (st n l hp nx ck mk) (st n l' hp' nx' 1 mk') := by
  subst hq hm
  exact sub_renwm live fz hh hx hok hf h1 h2

end

def w50 (e : List Bool) (i : Nat) : List Bool := e.take i ++ List.replicate (e.length - i) false

theorem w50_len {e : List Bool} {i : Nat} (h : i ≤ e.length) : (w50 e i).length = e.length := by
  unfold w50
  rw [List.length_append, List.length_take, List.length_replicate]
  omega

theorem w50_set {e : List Bool} {i : Nat} (h : i < e.length) : (w50 e i).set i (e.getD i false) = w50 e (i + 1) := by
  unfold w50
  rw [List.take_add_one, List.getElem?_eq_getElem h, show e.length - i = (e.length - (i + 1)) + 1 from by omega, List.replicate_succ, List.getD_eq_getElem?_getD, List.getElem?_eq_getElem h]
  have hl : (e.take i).length = i := by rw [List.length_take]; omega
  rw [List.set_append_right _ _ (by omega), hl, Nat.sub_self, List.set_cons_zero, List.append_assoc]
  rfl

theorem w50_end (e : List Bool) : w50 e e.length = e := by
  unfold w50
  rw [List.take_length, Nat.sub_self]
  exact List.append_nil _

theorem repl_bool (m : Nat) : repl m [.bool false] = (List.replicate m false).map AV.bool := by
  induction m with
  | zero => rfl
  | succ m ih => rw [repl, ih, List.replicate_succ, List.map_cons]; rfl

noncomputable def ca50_0 : Code := match env0.fn 50 with
  | some i => ((rangesOf i.ic)[0]?.getD (.skip, .skip)).1
  | none => .skip

noncomputable def cb50_0 : Code := match env0.fn 50 with
  | some i => ((rangesOf i.ic)[0]?.getD (.skip, .skip)).2
  | none => .skip

def asg50_0 : IC := .seq (.region [⟨(some 12), .mov (.t 45), none⟩] none)
  (.region [⟨(some 13), .mov (.t 46), none⟩] none)

def rb50_0 : IC := .block 3 (.region [⟨(some 47), .load none (.t 11), none⟩,
    ⟨(some 48), .mov (.t 12), none⟩,
    ⟨(some 49), .mov (.t 13), none⟩,
    ⟨(some 50), .idxs 1 (.t 47) (.t 48), none⟩,
    ⟨none, .store 1 (.t 50) (.t 49), none⟩] none)

noncomputable def b50_0 : IC := .seq (.region [⟨(some 26), .bin .lss (.t 25) (.t 24), none⟩] none)
  (.seq (.cond (.t 26) (.skip)
  (.exit 0))
  (.seq (.block 1 (.seq (.region [⟨(some 27), .mov (.t 25), none⟩,
    ⟨(some 28), .idxs 1 (.t 23) (.t 25), none⟩,
    ⟨(some 29), .load none (.t 28), none⟩,
    ⟨(some 9), .mov (.t 27), none⟩,
    ⟨(some 10), .mov (.t 29), none⟩] none)
  (.seq (.seq (.region [⟨(some 30), .mov (.t 10), none⟩,
    ⟨(some 31), .bin .geq (.t 30) (.c (.int .i64 0)), none⟩,
    ⟨(some 32), .mov (.t 31), none⟩,
    ⟨(some 33), .load (some 1) (.t 2), some (32, false)⟩,
    ⟨(some 34), .mov (.t 1), some (32, false)⟩,
    ⟨(some 35), .mov (.t 9), some (32, false)⟩,
    ⟨(some 36), .call (.c (.fn 95 [] [])) [(.t 34), (.t 35)], some (32, false)⟩,
    ⟨(some 37), .call (.c (.fn 94 [] [])) [(.t 33), (.t 36)], some (32, false)⟩,
    ⟨(some 38), .un .not (.t 37), some (32, false)⟩,
    ⟨(some 39), .pick (.t 32) (.c (.bool true)) (.t 38), none⟩] (some [[], [0], [1], [2], [2], [2], [4, 5, 2, 2], [3, 6, 6, 2], [7, 2], [2, 8]]))
  (.cond (.t 39) (.exit 1)
  (.skip)))
  (.seq (.region [⟨(some 40), .mov (.t 1), none⟩,
    ⟨(some 41), .mkslice 1 1 [.bool false] (.t 40) (.t 40), none⟩,
    ⟨(some 11), .alloc [.nils], none⟩,
    ⟨none, .store 1 (.t 11) (.t 41), none⟩] none)
  (.seq (.seq (.region [⟨(some 42), .mov (.t 1), none⟩,
    ⟨(some 43), .mov (.t 9), none⟩,
    ⟨(some 44), .call (.c (.fn 106 [] [])) [(.t 42), (.t 43)], none⟩] none)
  (.block 2 (.rangeFunc (.t 44) [45, 46] ca50_0 cb50_0 asg50_0 rb50_0)))
  (.region [⟨(some 51), .mov (.t 8), none⟩,
    ⟨(some 52), .load none (.t 11), none⟩,
    ⟨(some 53), .bslice 1 1 [.nils] [(0, 1, (.t 52))], none⟩,
    ⟨(some 54), .append 1 24 [.nils] (.t 51) (.t 53), none⟩,
    ⟨(some 8), .mov (.t 54), none⟩] none))))))
  (.region [⟨(some 55), .bin .add (.t 25) (.c (.int .i64 1)), none⟩,
    ⟨(some 25), .mov (.t 55), none⟩] none)))

-- pneumatic/homing.Lost
noncomputable def ic50 : IC := .seq (.region [⟨(some 2), .box (.t 0), none⟩,
    ⟨(some 4), .mov (.c (.nils)), none⟩,
    ⟨(some 5), .mov (.c (.int .i64 0)), none⟩] none)
  (.seq (.region [⟨(some 15), .load (some 1) (.t 2), none⟩,
    ⟨(some 16), .mov (.t 1), none⟩,
    ⟨(some 17), .call (.c (.fn 42 [] [])) [(.t 15), (.t 16)], none⟩,
    ⟨(some 14), .mov (.t 17), none⟩,
    ⟨(some 18), .extract (.t 14) 0, none⟩,
    ⟨(some 19), .extract (.t 14) 1, none⟩,
    ⟨(some 6), .mov (.t 18), none⟩,
    ⟨(some 7), .mov (.t 19), none⟩] none)
  (.seq (.seq (.region [⟨(some 20), .mov (.t 7), none⟩,
    ⟨(some 21), .bin .neq (.t 20) (.c (.int .i64 0)), none⟩] none)
  (.cond (.t 21) (.seq (.region [⟨(some 22), .mov (.t 7), none⟩,
    ⟨(some 4), .mov (.c (.nils)), none⟩,
    ⟨(some 5), .mov (.t 22), none⟩] none)
  (.ret))
  (.skip)))
  (.seq (.region [⟨(some 8), .mov (.c (.nils)), none⟩] none)
  (.seq (.seq (.region [⟨(some 23), .mov (.t 6), none⟩,
    ⟨(some 24), .len false (.t 23), none⟩,
    ⟨(some 25), .mov (.c (.int .i64 0)), none⟩] none)
  (.block 0 (.loop b50_0)))
  (.seq (.region [⟨(some 56), .mov (.t 8), none⟩,
    ⟨(some 4), .mov (.t 56), none⟩,
    ⟨(some 5), .mov (.c (.int .i64 0)), none⟩] none)
  (.ret))))))
theorem fn50 : env0.fn 50 = some ⟨57, ic50, [.t 4, .t 5]⟩ := by kernel_rfl

structure I50 (D : Nat) (out : List AV) (e : List Bool) (ltm : List (Nat × AV)) (i : Nat) (H : HS) : Prop where
  nx : D + 2 ≤ H.next
  h4 : Am.look (D + 1) H.heap = some (2, .loop .ready none 57 (tmOf ltm) [45, 46] ca50_0 cb50_0 (D, 1))
  h3 : Am.look D H.heap = some (1, .deferred)
  h0 : Am.look 0 H.heap = some (0, .cells out)
  h1 : Am.look 1 H.heap = some (0, .cells [.ms 2 0 1 0 e.length (some e.length)])
  h2 : Am.look 2 H.heap = some (0, .cells ((w50 e i).map AV.bool))

def l50 (l : List Ex) (m k : Nat) (Dv : List Int) (len : Nat) : List (Nat × AV) := [(44, .fn 144 [] [.vptr [.int .i64 (m : Nat)], .vptr [.int .i64 (k : Nat)]]), (1, .int .i64 (m : Nat)), (2, .vptr [.vs (cXs l)]), (6, vsI Dv), (8, .ms 0 0 1 0 len none), (23, vsI Dv), (24, .int .i64 (2 ^ m : Nat)), (25, .int .i64 (k : Nat)), (9, .int .i64 (k : Nat)), (11, .mptr 1 0 0)]

set_option maxHeartbeats 2000000 in
theorem yield50 {w0 : World} {N0 D : Nat} (hD : 3 ≤ D) {l : List Ex} {m k : Nat} {Dv : List Int} {len : Nat} {out : List AV} {e : List Bool} (ha : Com Try.prog ca50_0 asg50_0) (hb : Com Try.prog cb50_0 rb50_0) (i : Nat) (H : HS) (hi : i < e.length) (h : I50 D out e (l50 l m k Dv len) i H) :
    CT Try.prog w0 N0 (.yield (D + 1) 2) [.int .i64 (i : Nat), .bool (e.getD i false)] H fun v H' => v = .bool true ∧ Keep (fun j => j < 3 ∨ j = D ∨ j = D + 1) H H' ∧ I50 D out e (l50 l m k Dv len) (i + 1) H' := by
  obtain ⟨nx, h4, h3, h0, h1, h2⟩ := h
  have hwl := w50_len (Nat.le_of_lt hi)
  have hws : ((w50 e i).map AV.bool).set i (.bool (e.getD i false)) = (w50 e (i + 1)).map AV.bool := by rw [← w50_set hi, List.map_set]
  refine ct_yield (l0 := (46, .bool (e.getD i false)) :: (45, .int .i64 (i : Nat)) :: l50 l m k Dv len) h4 ha hb rfl (by decide) rfl ?_
  unfold asg50_0
  repeat (first | refine z_seq ?_ | refine z_region rfl ?_ | refine o_nil ?_ | refine u_seq ?_ | refine o_mov rfl ?_)
  refine u_end ⟨rfl, _, rfl, ?_⟩
  unfold rb50_0 l50
  repeat (first | refine z_region rfl ?_ | refine z_block ?_)
  refine o_loadm (sp := 0) rfl (by (repeat (first | rw [look_putl, if_pos rfl] | rw [look_putl, if_neg (by omega)] | rw [look_dropl, if_neg (by omega)])); all_goals (first | rfl | assumption)) (by omega) rfl ?_
  repeat (first | refine o_mov rfl ?_ | refine o_idxsm rfl rfl (by omega) (by omega) ?_)
  have e0 : 0 + ((i : Nat) : Int).toNat * 1 = i := by omega
  rw [e0]
  refine o_storeg (sp := 0) rfl rfl rfl (by (repeat (first | rw [look_putl, if_pos rfl] | rw [look_putl, if_neg (by omega)] | rw [look_dropl, if_neg (by omega)])); all_goals (first | rfl | assumption)) (by rw [List.length_map, hwl]; exact hi) rfl ?_
  rw [hws]
  repeat (first | refine o_nil ?_ | refine u_blk ?_)
  refine u_end ⟨57, tmOf (l50 l m k Dv len), [45, 46], ca50_0, cb50_0, (D, 1), ?_, none, rfl, rfl, ⟨Nat.le_refl _, Nat.le_refl _, fun j hj _ => ?_⟩, nx, ?_, ?_, ?_, ?_, ?_⟩
  · show Am.look (D + 1) (putl 2 _ (putl (D + 1) _ H.heap)) = _
    exact (by (repeat (first | rw [look_putl, if_pos rfl] | rw [look_putl, if_neg (by omega)] | rw [look_dropl, if_neg (by omega)])); all_goals (first | rfl | assumption))
  · show Am.look j (putl (D + 1) _ (putl 2 _ (putl (D + 1) _ H.heap))) = _
    rw [look_putl, if_neg (by omega), look_putl, if_neg (by omega), look_putl, if_neg (by omega)]
  · show Am.look (D + 1) (putl (D + 1) _ _) = _
    rw [look_putl, if_pos rfl]; rfl
  · show Am.look D (putl (D + 1) _ (putl 2 _ (putl (D + 1) _ H.heap))) = _
    exact (by (repeat (first | rw [look_putl, if_pos rfl] | rw [look_putl, if_neg (by omega)] | rw [look_dropl, if_neg (by omega)])); all_goals (first | rfl | assumption))
  · show Am.look 0 (putl (D + 1) _ (putl 2 _ (putl (D + 1) _ H.heap))) = _
    exact (by (repeat (first | rw [look_putl, if_pos rfl] | rw [look_putl, if_neg (by omega)] | rw [look_dropl, if_neg (by omega)])); all_goals (first | rfl | assumption))
  · show Am.look 1 (putl (D + 1) _ (putl 2 _ (putl (D + 1) _ H.heap))) = _
    exact (by (repeat (first | rw [look_putl, if_pos rfl] | rw [look_putl, if_neg (by omega)] | rw [look_dropl, if_neg (by omega)])); all_goals (first | rfl | assumption))
  · show Am.look 2 (putl (D + 1) _ (putl 2 _ (putl (D + 1) _ H.heap))) = _
    exact (by (repeat (first | rw [look_putl, if_pos rfl] | rw [look_putl, if_neg (by omega)] | rw [look_dropl, if_neg (by omega)])); all_goals (first | rfl | assumption))

end Go.Proofs.Ytoiblgbaeglgoaa
