/-
  THE NEIGHBOURS OF ALL VERTICES: joined, the whole.
-/
import Derived.Test.YtoagikifehmlpaaQF4
import Derived.Test.YtoagikifehmlpaaQTS
namespace Go.Proofs.Ytoagikifehmlpaa
open Go Go.Am
def srtc (l : List Int) : List Int := cps (srt l) ++ List.replicate ((srt l).length - (cps (srt l)).length) 0
structure Rs (m : Nat) (L : Nat → List Int) (i : Nat) (nz : Nat → Bool) (cv : Nat → AV) (C : Nat → List Int) (ids sps : Nat → Nat) : Prop where
 some : ∀ v, v < m → nz v = true → L v ≠ [] ∧ C v = (if v < i then srtc (L v) else L v) ∧ cv v = .ms (ids v) (sps v) 1 0 (if v < i then (cps (srt (L v))).length else (L v).length) none
 none : ∀ v, v < m → nz v = false → L v = [] ∧ cv v = (if v < i then .vs [] else .nils)
theorem Rs.start {m : Nat} {L : Nat → List Int} {nz : Nat → Bool} {cv : Nat → AV} {C : Nat → List Int} {ids sps : Nat → Nat} (h : Rw m L nz cv C ids sps) : Rs m L 0 nz cv C ids sps :=
 ⟨fun v hv hz => by rw [if_neg (Nat.not_lt_zero v), if_neg (Nat.not_lt_zero v)]; exact h.some v hv hz, fun v hv hz => by rw [if_neg (Nat.not_lt_zero v)]; exact h.none v hv hz⟩
theorem zpn {α : Type} {v i : Nat} (h : v ≠ i) (a b : α) : (if v < i + 1 then a else b) = if v < i then a else b := by
 by_cases e : v < i
 ·rw [if_pos e, if_pos (by omega)]
 ·rw [if_neg e, if_neg (by omega)]
def t45 (m : Nat) (i : Nat) : List (Nat × AV) := [(3, .ms 0 1 1 0 m (some m)), (32, .int .i64 (m : Nat)), (33, .int .i64 (i : Nat))]
set_option maxHeartbeats 2000000 in
theorem sort45 {w0 : World} {N0 : Nat} {m : Nat} {L : Nat → List Int} {i : Nat} {nz : Nat → Bool} {cv : Nat → AV} {C : Nat → List Int} {ids sps : Nat → Nat} {hp : List (Nat × Nat × AObj)} {nx ck : Nat} {Q : Exit → AS → Prop} (hm : m ≤ 256)
  (hJ : Jn m nz cv C ids sps hp nx) (hR : Rs m L i nz cv C ids sps) (hi : i < m) (hL : (L i).length ≤ 100000)
  (fin : ∀ l' hp' cv' C' sps', KeepA l' (t45 m (i + 1)) → Jn m nz cv' C' ids sps' hp' nx → Rs m L (i + 1) nz cv' C' ids sps' → Um Try.prog w0 N0 none .normal (st 51 l' hp' nx ck) [] Q) :
  Zm Try.prog w0 N0 none b45_2 (st 51 (t45 m i) hp nx ck) [] Q := by
 have ez : ∀ o : Nat, 0 + ((o : Nat) : Int).toNat * 1 = o := fun o => by simp
 have w1 : IntKind.wrap .i64 (((i : Nat) : Int) + 1) = ((i + 1 : Nat) : Int) := zar i (by omega)
 have hidx : ((i : Nat) : Int) < ((m : Nat) : Int) := Int.ofNat_lt.2 hi
 unfold b45_2 t45
 repeat (first | refine za6 ?_ | refine za0 rfl ?_)
 refine zlm rfl rfl (by show some (AV.bool (decide (((i : Nat) : Int) < ((m : Nat) : Int)))) = _; rw [decide_eq_true hidx]) ?_
 repeat (first | refine za6 ?_ | refine za0 rfl ?_ | refine za5 ?_ | refine za3 ?_ | refine zae ?_ | refine zad ?_ | refine zcp rfl ?_ | refine za2 rfl ?_ | refine zbu rfl rfl (by omega) (by omega) ?_)
 rw [ez]
 refine zb1 (id := 0) (sp := 1) (off := i) rfl hJ.top hJ.nx0 (hJ.get hi) ?_
 cases hz : nz i with
 | true =>
  obtain ⟨e0, e1, e2⟩ := hR.some i hi hz
  rw [if_neg (Nat.lt_irrefl i)] at e1 e2
  have hc := hJ.cell i hi hz
  rw [e1] at hc
  have hne2 : srt (L i) ≠ [] := fun e => e0 (by have := zkh (L i); rw [e] at this; exact List.length_eq_zero_iff.1 this.symm)
  have J1 := hJ.block hi hz (sps i) (srt (L i))
  have hc2 := J1.cell i hi hz
  rw [zap, zap] at hc2
  have J2 := J1.block hi hz (sps i) (srtc (L i))
  have J3 := J2.cset i (.ms (ids i) (sps i) 1 0 (cps (srt (L i))).length none)
  refine o_ct _ rfl (congrArg (fun v => some [v]) e2) (zfe (FT_sort (cap := none) (zs := L i) ent64 sorts64 e0 (by omega) hc)) (fun v H hF => fun _ h => absurd h List.not_mem_nil) fun v H hF => ?_
  obtain ⟨rfl, rfl⟩ := hF
  repeat (first | refine za0 rfl ?_ | refine za5 ?_ | refine za3 ?_ | refine za2 rfl ?_ | refine zbu rfl rfl (by omega) (by omega) ?_)
  rw [ez]
  refine zb1 (id := 0) (sp := 1) (off := i) rfl J1.top J1.nx0 (J1.get hi) ?_
  refine o_ct _ rfl (congrArg (fun v => some [v]) (e2.trans (by rw [← zkh (L i)]))) (zfe (zp3 (cap := none) (zs := srt (L i)) ent65 cpts65 hne2 (by rw [zkh]; omega) hc2)) (fun v H hF => fun _ h => absurd h List.not_mem_nil) fun v H hF => ?_
  obtain ⟨rfl, rfl⟩ := hF
  repeat (first | refine zbu rfl rfl (by omega) (by omega) ?_)
  rw [ez]
  refine zdh (id := 0) (sp := 1) (off := i) rfl rfl rfl J2.top (by simp; exact hi) rfl ?_
  repeat (first | refine za0 rfl ?_ | refine za5 ?_ | refine za3 ?_ | refine zcb ?_ | refine za2 rfl ?_ | refine zbe (op := .add) rfl rfl rfl ?_)
  rw [w1]
  refine fin _ _ _ _ _ ?_ J3 ?_
  ·exact .cons rfl (.cons rfl (.cons rfl .nil))
  ·constructor
   ·intro v hv hzv
    by_cases e : v = i
    ·subst e
     rw [zap, zap, zap, if_pos (Nat.lt_succ_self v), if_pos (Nat.lt_succ_self v)]
     exact ⟨e0, rfl, rfl⟩
    ·rw [zaa _ _ e, zaa _ _ e, zaa _ _ e, zaa _ _ e, zaa _ _ e]
     rw [zpn e, zpn e]
     exact hR.some v hv hzv
   ·intro v hv hzv
    have e : v ≠ i := fun e => by rw [e, hz] at hzv; cases hzv
    rw [zaa _ _ e, zpn e]
    exact hR.none v hv hzv
 | false =>
  obtain ⟨e0, e2⟩ := hR.none i hi hz
  rw [if_neg (Nat.lt_irrefl i)] at e2
  have J3 := hJ.cset i (.vs [])
  refine zak (vs := [.nils]) (congrArg (fun v => some [v]) e2) rfl ints64 (fun h => Bool.noConfusion (show false = true from h)) ?_
  repeat (first | refine za0 rfl ?_ | refine za5 ?_ | refine za3 ?_ | refine za2 rfl ?_ | refine zbu rfl rfl (by omega) (by omega) ?_)
  rw [ez]
  refine zb1 (id := 0) (sp := 1) (off := i) rfl hJ.top hJ.nx0 (hJ.get hi) ?_
  refine zak (vs := [.nils]) (congrArg (fun v => some [v]) e2) rfl zr8 (fun h => Bool.noConfusion (show false = true from h)) ?_
  repeat (first | refine zbu rfl rfl (by omega) (by omega) ?_)
  rw [ez]
  refine zdh (id := 0) (sp := 1) (off := i) rfl rfl rfl hJ.top (by simp; exact hi) rfl ?_
  repeat (first | refine za0 rfl ?_ | refine za5 ?_ | refine za3 ?_ | refine zcb ?_ | refine za2 rfl ?_ | refine zbe (op := .add) rfl rfl rfl ?_)
  rw [w1]
  refine fin _ _ _ _ _ ?_ J3 ?_
  ·exact .cons rfl (.cons rfl (.cons rfl .nil))
  ·constructor
   ·intro v hv hzv
    have e : v ≠ i := fun e => by rw [e, hz] at hzv; cases hzv
    rw [zaa _ _ e, zpn e, zpn e]
    exact hR.some v hv hzv
   ·intro v hv hzv
    by_cases e : v = i
    ·subst e
     rw [zap, if_pos (Nat.lt_succ_self v)]
     exact ⟨e0, rfl⟩
    ·rw [zaa _ _ e, zpn e]
     exact hR.none v hv hzv
theorem zld {f : Nat → AV} (h : ∀ v, hasM (f v) = false) : ∀ l : List Nat, hasM.hasML (l.map f) = false
 | [] => rfl
 | v :: l => by
  rw [List.map_cons]
  show (hasM (f v) || hasM.hasML (l.map f)) = false
  rw [h v, zld h l]
  rfl
theorem zsy (E : List (Nat × Nat)) (v : Nat) : (raw E v).length ≤ E.length := by
 unfold raw
 rw [List.length_map]
 exact List.length_filter_le ..
set_option maxHeartbeats 2000000 in
theorem ze3 (m : Nat) (hm : m ≤ 256) (E : List (Nat × Nat)) (hE : E.length ≤ 5000) (hb : ∀ u v, (u, v) ∈ E → u < m ∧ v < m) : PF Try.prog 45 [cG (m : Nat) (zal E)] (cN E m) := by
 have hcl : (cE (zal E)).length = E.length := by rw [zcg]; exact List.length_map ..
 refine zb4 env0_ok fn45 [(0, .agg [.int .i64 (m : Nat), .vs (cE (zal E))])] (by show 1 ≤ 51; decide) rfl fun w0 N0 => ?_
 unfold ic45
 refine za6 (za0 rfl (ze8 rfl rfl (za2 rfl (za5 (za3 ?_)))))
 refine zby [] [(0, 0, [.int .i64 (m : Nat), .vs (cE (zal E))])] [(1, .vptr [.int .i64 (m : Nat), .vs (cE (zal E))])] rfl (.cons rfl rfl .nil) .nil (.cons rfl (.fptr rfl rfl) .nil) ?_
 repeat (first | refine za6 ?_ | refine za0 rfl ?_ | refine zaf rfl rfl ?_ | refine zan rfl rfl rfl ?_)
 refine o_mks rfl rfl ⟨Int.natCast_nonneg m, Int.le_refl _, by omega, by decide⟩ ?_
 repeat (first | refine za6 ?_ | refine za0 rfl ?_ | refine za5 ?_ | refine za3 ?_ | refine zae ?_ | refine za2 rfl ?_ | refine zaf rfl rfl ?_ | refine zan rfl rfl rfl ?_ | refine zbf rfl rfl ?_)
 have J0 : Jn m (fun _ => false) (fun _ => .nils) (fun _ => []) (fun _ => 0) (fun _ => 0) [(0, 1, AObj.cells (zev ((m : Nat) : Int).toNat [.nils]))] 1 := by
  refine ⟨?_, fun _ _ h => (by cases h), fun _ _ h => (by cases h), fun _ _ _ _ h => (by cases h), Nat.zero_lt_one⟩
  rw [← zj8]
  rfl
 refine zbx (fun mm S => ∃ i hp nx ck nz cv C ids sps, mm = E.length - i ∧ i ≤ E.length ∧ Jn m nz cv C ids sps hp nx ∧ Rw m (raw (E.take i)) nz cv C ids sps ∧ S = st 51 [(1, .vptr [.int .i64 (m : Nat), .vs (cE (zal E))]), (3, .ms 0 1 1 0 m (some m)), (11, .vs (cE (zal E))), (12, .int .i64 ((cE (zal E)).length : Nat)), (13, .int .i64 (i : Nat))] hp nx ck) E.length
  (za9 (.cons rfl (.cons rfl (.cons rfl (.cons rfl (.cons rfl .nil)))))) ⟨0, _, _, _, _, _, _, _, _, rfl, Nat.zero_le _, J0, ⟨fun _ _ h => (by cases h), fun _ _ _ => ⟨rfl, rfl⟩⟩, rfl⟩ ?_
 rintro mm S ⟨i, hp, nx, ck, nz, cv, C, ids, sps, rfl, hi, hJ, hR, rfl⟩
 unfold b45_0
 repeat (first | refine za6 ?_ | refine za0 rfl ?_)
 refine zau rfl rfl rfl (fun h3 => ?_) fun h3 => ?_
 ·have hlt : i < E.length := by
   have h4 : ((i : Nat) : Int) < (((cE (zal E)).length : Nat) : Int) := of_decide_eq_true h3
   omega
  have w1 : IntKind.wrap .i64 (((i : Nat) : Int) + 1) = ((i + 1 : Nat) : Int) := zar i (by omega)
  have hg := zhb hlt
  obtain ⟨ha, _⟩ := hb _ _ (List.getElem_mem hlt : (E[i].1, E[i].2) ∈ E)
  have hrs := fun v => raw_step hlt v
  repeat (first | refine za6 ?_ | refine za0 rfl ?_ | refine za5 ?_ | refine za3 ?_ | refine zae ?_ | refine zad ?_ | refine zcp rfl ?_ | refine zax rfl rfl rfl rfl ?_ | refine ze6 ?_ | refine zaw rfl rfl (by omega) (by assumption) rfl ?_)
  refine zdm (id := nx) (sp := ck) (off := 0) rfl rfl rfl rfl zb5 rfl rfl ?_
  refine za5 (za3 ?_)
  have hpn := hJ.nx0
  refine reg45 (j := nx) (s5 := ck) (a := E[i].1) (b := E[i].2) (l' := [(1, .vptr [.int .i64 (m : Nat), .vs (cE (zal E))]), (3, .ms 0 1 1 0 m (some m)), (11, .vs (cE (zal E))), (12, .int .i64 ((cE (zal E)).length : Nat)), (13, .int .i64 (i : Nat))])
   ((hJ.fresh ck _).junk (j := nx) (by omega) (fun v hv hz => by have := hJ.pos v hv hz; omega) _) hR (by rw [za7, if_pos rfl]; rfl) (Nat.lt_succ_self _) (fun v hv hz => by have := hJ.pos v hv hz; omega) ha (by have := zsy (E.take i) E[i].1; rw [List.length_take] at this; omega) rfl rfl (.cons rfl (.cons rfl (.cons rfl (.cons rfl (.cons rfl .nil))))) (fun x hx => by
    simp only [List.mem_cons, List.not_mem_nil, or_false] at hx
    rcases hx with rfl | rfl | rfl | rfl | rfl <;> simp) fun hp' nx' ck' nz' cv' C' ids' sps' hJ' hR' => ?_
  repeat (first | refine za0 rfl ?_ | refine za5 ?_ | refine za2 rfl ?_ | refine zbe (op := .add) rfl rfl rfl ?_)
  rw [w1]
  refine zay (show E.length - (i + 1) < E.length - i by omega) (za9 (.cons rfl (.cons rfl (.cons rfl (.cons rfl (.cons rfl .nil)))))) ⟨i + 1, _, _, _, _, _, _, _, _, rfl, hlt, hJ', ?_, rfl⟩
  have : raw (E.take (i + 1)) = upd (raw (E.take i)) E[i].1 (raw (E.take i) E[i].1 ++ [((E[i].2 : Nat) : Int)]) := by
   funext v
   rw [hrs v]
   unfold upd
   by_cases e : v = E[i].1
   ·rw [if_pos e.symm, if_pos e, e]
   ·rw [if_neg fun h => e h.symm, if_neg e]
  rw [this]
  exact hR'
 ·have hie : i = E.length := by
   have h4 : ¬ ((i : Nat) : Int) < (((cE (zal E)).length : Nat) : Int) := of_decide_eq_false h3
   omega
  subst hie
  rw [List.take_length] at hR
  repeat (first | refine za6 ?_ | refine za5 ?_ | refine za3 ?_ | refine zce rfl ?_ | refine zbw ?_ | refine zag ?_)
  refine zdb ?_
  repeat (first | refine za6 ?_ | refine za0 rfl ?_ | refine za5 ?_ | refine za3 ?_ | refine zae ?_ | refine zbv ?_ | refine za2 rfl ?_ | refine zbf rfl rfl ?_)
  refine zbx (fun mm S => ∃ i hp ck cv C sps, mm = m - i ∧ i ≤ m ∧ Jn m nz cv C ids sps hp nx ∧ Rs m (raw E) i nz cv C ids sps ∧ S = st 51 (t45 m i) hp nx ck) m
   (za9 (.cons rfl (.cons rfl (.cons rfl .nil)))) ⟨0, _, _, _, _, _, rfl, Nat.zero_le _, hJ, Rs.start hR, rfl⟩ ?_
  rintro mm S ⟨i, hp, ck, cv, C, sps, rfl, hi, hJ, hR, rfl⟩
  by_cases hlt : i < m
  ·exact sort45 hm hJ hR hlt (by have := zsy E i; omega) fun l' hp' cv' C' sps' hk hJ' hR' => zay (show m - (i + 1) < m - i by omega) (za9 hk) ⟨i + 1, _, _, _, _, _, rfl, hlt, hJ', hR', rfl⟩
  ·have hie : i = m := by omega
   subst hie
   unfold b45_2 t45
   repeat (first | refine za6 ?_ | refine za0 rfl ?_)
   refine zc0 rfl rfl (by show some (AV.bool (decide (((i : Nat) : Int) < ((i : Nat) : Int)))) = _; rw [decide_eq_false (Int.lt_irrefl _)]) ?_
   repeat (first | refine za6 ?_ | refine za5 ?_ | refine za3 ?_ | refine zce rfl ?_ | refine zbw ?_ | refine zag ?_)
   refine zdb ?_
   refine zbv (za3 ?_)
   refine zby [(some (0, 1), (List.range i).map fun v => vN (nbr E i v))] (fzJ i nz C ids sps) [(3, .ms 0 0 1 0 i (some i))] (hJ.ok _) hJ.rnF (.cons hJ.top (rnC_of fun v hv => ?_) .nil) (.cons rfl (.ms rfl) .nil) ?_
   ·have hv := List.mem_range.1 hv
    cases hz : nz v with
    | true =>
     obtain ⟨e0, e1, e2⟩ := hR.some v hv hz
     rw [if_pos hv] at e1 e2
     rw [e2]
     have hc := zr9 (es := E) (N := i) (v := v) fun u w h => (hb u w h).2
     have hfz := hJ.fzl hv hz
     rw [e1] at hfz
     refine .fms hfz (by rw [List.length_map, hc, List.length_map]) (fun x hx => by obtain ⟨s, _, rfl⟩ := List.mem_map.1 hx; rfl) ⟨(List.replicate ((srt (raw E v)).length - (cps (srt (raw E v))).length) 0).map (AV.int .i64), ?_⟩
     unfold srtc
     rw [List.drop_zero, List.map_append, hc, zl7, List.map_map]
     rfl
    | false =>
     obtain ⟨e0, e2⟩ := hR.none v hv hz
     rw [if_pos hv] at e2
     rw [e2]
     have hc := zr9 (es := E) (N := i) (v := v) fun u w h => (hb u w h).2
     rw [e0] at hc
     have h0 : cps (srt []) = [] := by rw [cps_eq, show srt [] = [] from by unfold srt; simp]; rfl
     have : nbr E i v = [] := List.map_eq_nil_iff.1 (hc.symm.trans h0)
     unfold vN
     rw [this]
     exact .same rfl
   refine zby [] [(0, 0, (List.range i).map fun v => vN (nbr E i v))] [(3, cN E i)] rfl (.cons rfl ?_ .nil) .nil (.cons rfl ?_ .nil) ?_
   ·exact zld (fun v => rfl) _
   ·have := RenW.fms1 (live := []) (fz := [(0, 0, (List.range i).map fun v => vN (nbr E i v))]) (id := 0) (sp := 0) (len := i) (cap := some i) (vs := (List.range i).map fun v => vN (nbr E i v)) rfl (by rw [List.length_map, List.length_range])
    rw [List.map_map] at this
    exact this
   repeat (first | refine za6 ?_ | refine za0 rfl ?_ | refine za5 ?_ | refine za3 ?_ | refine zaq ?_ | refine za2 rfl ?_)
   exact zao ⟨.inr rfl, _, rfl, rfl⟩
end Go.Proofs.Ytoagikifehmlpaa
