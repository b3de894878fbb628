/-
  A QUEUE: a list of its own that is cut at its begin and grows at its end; steps on it.
-/
import Derived.Test.YtoagikifehmlpaaQF3
import Derived.Test.YtoagikifehmlpaaQTR
namespace Go.Proofs.Ytoagikifehmlpaa
open Go Go.Am
def iN (q : List Nat) : List AV := q.map fun w => AV.int .i64 (w : Nat)
theorem iN_len (q : List Nat) : (iN q).length = q.length := List.length_map ..
inductive QV (hp : List (Nat × Nat × AObj)) (nx : Nat) (q : List Nat) : AV → Prop
 | lit {id sp : Nat} (a : Nat) (hq : q = [a]) (hl : Am.look id hp = some (sp, .cells (iN [a]))) (h1 : id ≠ 1) (hn : id < nx) : QV hp nx q (.ms id sp 1 0 1 (some 1))
 | gen {id sp off : Nat} {cs : List AV} (hl : Am.look id hp = some (sp, .cells cs)) (hd : cs.drop off = iN q) (h1 : id ≠ 1) (hn : id < nx) : QV hp nx q (.ms id sp 1 off q.length none)
 | nil {id sp off : Nat} (hq : q = []) : QV hp nx q (.ms id sp 1 off 0 (some 0))
structure Fq (o : List Int) (q : List Nat) (qv : AV) (hp : List (Nat × Nat × AObj)) (nx : Nat) : Prop where
 out : Am.look 1 hp = some (2, .cells (o.map (AV.int .i64)))
 nx1 : 1 < nx
 qu : QV hp nx q qv
section
variable {w0 : World} {N0 n d nx ck : Nat} {k : List Fr} {Q : Exit → AS → Prop} {o : List Int} {q : List Nat} {qv : AV} {hp : List (Nat × Nat × AObj)} {l : List (Nat × AV)} {ios : List Opr}
theorem Fq.fresh (h : Fq o q qv hp nx) (ck : Nat) (x : AObj) : Fq o q qv ((nx, ck, x) :: hp) (nx + 1) := by
 have h1 := h.nx1
 refine ⟨by rw [za8, if_neg (by omega)]; exact h.out, by omega, ?_⟩
 cases h.qu with
 | lit a hq hl h1 hn => exact .lit a hq (by rw [za8, if_neg (by omega)]; exact hl) h1 (by omega)
 | gen hl hd h1 hn => exact .gen (by rw [za8, if_neg (by omega)]; exact hl) hd h1 (by omega)
 | nil hq => exact .nil hq
theorem Fq.set (h : Fq o q qv hp nx) (v : Nat) (x : Int) : Fq (o.set v x) q qv (zca 1 (2, .cells ((o.map (AV.int .i64)).set v (.int .i64 x))) hp) nx := by
 refine ⟨by rw [za7, if_pos rfl, ← List.map_set], h.nx1, ?_⟩
 cases h.qu with
 | lit a hq hl h1 hn => exact .lit a hq (by rw [za7, if_neg (fun e => h1 e.symm)]; exact hl) h1 hn
 | gen hl hd h1 hn => exact .gen (by rw [za7, if_neg (fun e => h1 e.symm)]; exact hl) hd h1 hn
 | nil hq => exact .nil hq
theorem o_qlen {x : Arg} (hF : Fq o q qv hp nx) (hx : zb3 x l = some qv) (go : Om Try.prog w0 N0 none (KnP Try.prog w0 N0) ios (st n ((d, .int .i64 (q.length : Nat)) :: l) hp nx ck) k Q) : Om Try.prog w0 N0 none (KnP Try.prog w0 N0) (⟨some d, .len false x, none⟩ :: ios) (st n l hp nx ck) k Q := by
 cases hF.qu with
 | lit a hq hl h1 hn => subst hq; exact zbf hx rfl go
 | gen hl hd h1 hn => exact zbf hx rfl go
 | nil hq => subst hq; exact zbf hx rfl go
theorem zsm {d2 a : Nat} {qs : List Nat} {x : Arg} (hF : Fq o (a :: qs) qv hp nx) (hx : zb3 x l = some qv) (go : ∀ p, Om Try.prog w0 N0 none (KnP Try.prog w0 N0) ios (st n ((d2, .int .i64 (a : Nat)) :: (d, p) :: l) hp nx ck) k Q) :
  Om Try.prog w0 N0 none (KnP Try.prog w0 N0) (⟨some d, .idxs 1 x (.c (.int .i64 0)), none⟩ :: ⟨some d2, .load none (.t d), none⟩ :: ios) (st n l hp nx ck) k Q := by
 have ht : ∀ p : AV, zb3 (.t d) ((d, p) :: l) = some p := fun p => by
  show zc4 d ((d, p) :: l) = some p
  rw [zc4, Nat.beq_refl]
 cases hF.qu with
 | @lit id sp a2 hq hl h1 hn =>
  injection hq with hq _
  subst hq
  refine zbu hx rfl (Int.le_refl 0) (by decide) ?_
  exact zb1 (id := id) (sp := sp) (off := 0) (ht _) hl hn rfl (go _)
 | @gen id sp off cs hl hd h1 hn =>
  refine zbu hx rfl (Int.le_refl 0) (by rw [List.length_cons]; omega) ?_
  refine zb1 (id := id) (sp := sp) (off := off + 0 * 1) (ht _) hl hn ?_ (go _)
  have := congrArg (fun l => l[0]?) hd
  simp only [List.getElem?_drop] at this
  rw [show off + 0 * 1 = off + 0 by omega, this]
  rfl
 | nil hq => cases hq
theorem o_qapp {bytes j sj v : Nat} {z : List AV} {s x : Arg} (hF : Fq o q qv hp nx) (hne : q ≠ []) (hlen : q.length ≤ 1000000) (hs : zb3 s l = some qv) (hx : zb3 x l = some (.ms j sj 1 0 1 (some 1))) (hj : Am.look j hp = some (sj, .cells [.int .i64 (v : Nat)])) (hb : bytes ≤ 16777216)
  (go : ∀ qv' hp' nx' ck', Fq o (q ++ [v]) qv' hp' nx' → Om Try.prog w0 N0 none (KnP Try.prog w0 N0) ios (st n ((d, qv') :: l) hp' nx' ck') k Q) :
  Om Try.prog w0 N0 none (KnP Try.prog w0 N0) (⟨some d, .append 1 bytes z s x, none⟩ :: ios) (st n l hp nx ck) k Q := by
 have hel : (st n l hp nx ck []).elems 1 (.ms j sj 1 0 1 (some 1)) = some [[.int .i64 (v : Nat)]] := zdc (xs := [[.int .i64 (v : Nat)]]) (ys := []) hj rfl fun x hx => by obtain rfl := List.mem_singleton.1 hx; rfl
 have hn1 := hF.nx1
 cases hF.qu with
 | @lit id sp a hq hl h1 hn =>
  subst hq
  have hi : iop (st n l hp nx ck) (.append 1 bytes z s x) = some (.ms nx ck 1 0 2 none, st n l ((nx, ck, .cells (iN [a, v])) :: hp) (nx + 1) (ck + 1)) := by
   simp only [iop, zam, hs, hx, hel]
   unfold zb7
   rw [if_neg (show ¬ [[AV.int .i64 (v : Nat)]].length = 0 from Nat.succ_ne_zero 0), if_pos (show [[AV.int .i64 (v : Nat)]].flatten.all AV.isCell = true ∧ bytes ≤ 16777216 from ⟨rfl, hb⟩)]
   simp only [show (st n l hp nx ck []).heap = hp from rfl, hl]
   rw [if_pos (show True ∧ True ∧ 0 + 1 * 1 ≤ (iN [a]).length ∧ 1 + [[AV.int .i64 (v : Nat)]].length ≤ 1048576 from ⟨trivial, trivial, Nat.le_refl 1, (by show 2 ≤ 1048576; decide)⟩), if_neg (show ¬ 1 + [[AV.int .i64 (v : Nat)]].length ≤ 1 from (by show ¬ 2 ≤ 1; decide))]
   rfl
  refine ze9 hi (go _ _ _ _ ⟨by rw [za8, if_neg (by omega)]; exact hF.out, by omega, ?_⟩) (fun _ _ _ _ _ _ _ => rfl)
  exact .gen (q := [a, v]) (off := 0) zb5 rfl (by omega) (by omega)
 | @gen id sp off cs hl hd h1 hn =>
  have e1 : cs.length - off = q.length := by rw [← List.length_drop, hd, iN_len]
  have e2 := List.length_pos_iff.2 hne
  refine zll [[.int .i64 (v : Nat)]] hs hx hel (Nat.succ_ne_zero 0) rfl hb hl (by omega) (by show q.length + 1 ≤ 1048576; omega) ?_ (fun _ _ _ _ _ _ _ => rfl)
  refine go _ _ _ _ ⟨by rw [za7, if_neg h1]; exact hF.out, hn1, ?_⟩
  have e3 : (cs.drop off).take (q.length * 1) ++ [[AV.int .i64 (v : Nat)]].flatten = iN (q ++ [v]) := by
   rw [hd, List.take_of_length_le (by rw [iN_len]; omega)]
   unfold iN
   rw [List.map_append]
   rfl
  rw [e3]
  have := QV.gen (hp := zca id (ck, .cells (iN (q ++ [v]))) hp) (nx := nx) (q := q ++ [v]) (id := id) (sp := ck) (off := 0) (cs := iN (q ++ [v])) (by rw [za7, if_pos rfl]) rfl h1 hn
  rw [List.length_append] at this
  exact this
 | nil hq => exact absurd hq hne
theorem o_qcut {a : Nat} {qs : List Nat} {x : Arg} (hF : Fq o (a :: qs) qv hp nx) (hx : zb3 x l = some qv) (go : ∀ qv', Fq o qs qv' hp nx → Om Try.prog w0 N0 none (KnP Try.prog w0 N0) ios (st n ((d, qv') :: l) hp nx ck) k Q) :
  Om Try.prog w0 N0 none (KnP Try.prog w0 N0) (⟨some d, .slsl 1 x (some (.c (.int .i64 1))) none none, none⟩ :: ios) (st n l hp nx ck) k Q := by
 cases hF.qu with
 | @lit id sp a2 hq hl h1 hn =>
  injection hq with _ hq
  refine o_slsl (lv := some (.int .i64 1)) (hv := none) (lo := 1) (hh := ((1 : Nat) : Int)) hx rfl rfl rfl rfl (by decide) (by decide) (by decide) (go _ ⟨hF.out, hF.nx1, .nil hq⟩)
 | @gen id sp off cs hl hd h1 hn =>
  refine o_slsl (lv := some (.int .i64 1)) (hv := none) (lo := 1) (hh := (((a :: qs).length : Nat) : Int)) hx rfl rfl rfl rfl (by decide) (by rw [List.length_cons]; omega) (Int.le_refl _) (go _ ⟨hF.out, hF.nx1, ?_⟩)
  have := QV.gen (hp := hp) (nx := nx) (q := qs) (id := id) (sp := sp) (off := off + 1) (cs := cs) hl (by rw [← List.drop_drop, hd]; rfl) h1 hn
  exact this
 | nil hq => cases hq
end
end Go.Proofs.Ytoagikifehmlpaa
