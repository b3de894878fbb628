/-
  EXACT COVERS: the search.
-/
import Derived.Test.YtknomkcdpcnmaaaYVE
namespace Go.Proofs.Ytknomkcdpcnmaaa
open Go Go.Am
theorem ziy (A : BitVec 64) : ∀ (t : List (BitVec 64)) (i : Nat) (h : BitVec 64), ∀ c ∈ lvs A t i h, c.length ≤ t.length
 | [], _, _, c, hc => by cases hc
 | x :: xs, i, h, c, hc => by
  rw [lvs, List.mem_append] at hc
  rcases hc with hc | hc
  ·split at hc
   ·obtain ⟨d, hd, rfl⟩ := List.mem_map.1 hc
    split at hd
    ·obtain rfl := List.mem_singleton.1 hd
     simp
    ·have := ziy A xs _ _ d hd
     simp only [List.length_cons]
     omega
   ·cases hc
  ·have := ziy A xs _ _ c hc
   simp only [List.length_cons]
   omega
theorem zr7 (A : BitVec 64) (s : List (BitVec 64)) (i : Nat) (h : BitVec 64) : ∀ c ∈ zdk A s i h, c.length ≤ s.length - i := fun c hc => by
 unfold zdk at hc
 split at hc
 ·obtain rfl := List.mem_singleton.1 hc
  simp
 ·have := ziy A _ _ _ c hc
  rwa [List.length_drop] at this
theorem lvs_step {A : BitVec 64} {s : List (BitVec 64)} {i : Nat} (hi : i < s.length) (h : BitVec 64) : lvs A (s.drop i) i h = (if s[i] != 0#64 && s[i] &&& h == 0#64 then (zdk A s (i + 1) (h ||| s[i])).map fun c => ((i : Nat) : Int) :: c else []) ++ lvs A (s.drop (i + 1)) (i + 1) h := by
 rw [List.drop_eq_getElem_cons hi, lvs]
 rfl
set_option maxHeartbeats 8000000 in
theorem zoo {n : Int} {s : List (BitVec 64)} {w0 : World} {N0 nb sn bb sb wb sw r : Nat} (hc0 : zep n s = 0) (hnb : nb ≠ bb) (hnw : nb ≠ wb) (hbw : bb ≠ wb) (ih : ∀ r' < r, zgz n s w0 N0 nb sn bb sb wb sw r') : zgz n s w0 N0 nb sn bb sb wb sw r := by
 intro vs first c h b X lb sl H h1 h2 h3 h4 h5 h6 h7 h8 h9 h10 h11
 obtain ⟨n0, n1, s1, _⟩ := zfs hc0
 cases hA : h == zcw n with
 | true =>
  have hn : zdk (zcw n) s first h = [[]] := by unfold zdk; rw [hA]; rfl
  have hb : beh vs [[]] = [vs] := by unfold beh; simp
  rw [hn] at h4 ⊢
  rw [hb, List.foldl_cons, List.foldl_nil]
  exact foundE hc0 hnb hnw hbw vs first c h b X lb sl H (by omega) h3 h4 h6 h7 h8 h9 h10 h11 hA
 | false =>
 have hn : zdk (zcw n) s first h = lvs (zcw n) (s.drop first) first h := by unfold zdk; rw [hA]; rfl
 rw [hn] at h4 ⊢
 have pA := zs2 n0 n1
 have hcl := zcl s
 unfold ic42 tE
 repeat (first | refine zal ?_ | refine za0 rfl ?_ | refine zab rfl ?_ | refine zau rfl rfl ?_ | refine za6 rfl rfl rfl ?_)
 refine zc3 rfl rfl pA (fun h => Bool.noConfusion (show false = true from h)) ?_
 refine zb0 rfl rfl ((zds _ _).trans (by rw [hA])) ?_
 repeat (first | refine zal ?_ | refine za0 rfl ?_ | refine zac ?_ | refine zae ?_ | refine zah ?_ | refine zas ?_ | refine zbl rfl ?_ | refine zab rfl ?_)
 refine zcf (fun mm S => ∃ i b' H' X', mm = s.length - i ∧ i ≤ s.length ∧ vs.length ≤ i ∧ first ≤ i ∧ (beh vs (lvs (zcw n) (s.drop first) first h)).foldl zcn b = (beh vs (lvs (zcw n) (s.drop i) i h)).foldl zcn b' ∧ b'.1.length ≤ 64 ∧ b'.2 + (lvs (zcw n) (s.drop i) i h).length ≤ 1000000 ∧
   vs.length + X'.length = c ∧ X'.length = X.length ∧ CE n s b' nb sn bb sb wb sw H' ∧ Am.look lb H'.heap = some (sl, .cells (zdn vs X')) ∧ Keep (fun j => j = nb ∨ j = bb ∨ j = lb) H H' ∧
   S = st 75 [(0, .ms lb sl 1 0 vs.length (some c)), (2, cU h), (3, .vptr [.int .i64 n, .vs (cUs s)]), (4, .mptr nb sn 0), (5, .mptr bb sb 0), (6, .mptr wb sw 0), (10, .int .i64 (i : Nat))] H'.heap H'.next H'.clk) (s.length - first)
  (zbd (.cons rfl (.cons rfl (.cons rfl (.cons rfl (.cons rfl (.cons rfl (.cons rfl .nil)))))))) ⟨first, b, H, X, rfl, by omega, h2, Nat.le_refl _, rfl, h3, h4, h5, rfl, h6, h7, .refl _ _, rfl⟩ ?_
 rintro mm S ⟨i, b', H', X', rfl, hi, hvi, hfi, hfold, hb3, hb4, hX, hXl, hC', hlb', hKp, rfl⟩
 have hlt' : lb < H'.next := Nat.lt_of_lt_of_le h8 hKp.next
 have hll := zlp vs X'
 unfold b42_0
 repeat (first | refine zal ?_ | refine za0 rfl ?_ | refine zab rfl ?_ | refine zau rfl rfl ?_ | refine za6 rfl rfl rfl ?_ | refine zbe rfl rfl ?_)
 refine zbv rfl rfl rfl (fun h30 => ?_) fun h30 => ?_
 ·have hlt : i < s.length := by
   have : ((i : Nat) : Int) < ((cUs s).length : Nat) := of_decide_eq_true h30
   omega
  have hg := zh3 hlt
  have w1 : IntKind.wrap .i64 (((i : Nat) : Int) + 1) = ((i + 1 : Nat) : Int) := zbn i (by omega)
  have hlv : (vs ++ [(i : Int)]).length = vs.length + 1 := by simp
  rw [lvs_step hlt] at hfold hb4
  generalize s[i] = x at *
  -- a set that is left out
  have skip : (x != 0#64 && x &&& h == 0#64) = false → ∀ (l : List (Nat × AV)), zd0 0 l = some (.ms lb sl 1 0 vs.length (some c)) → zd0 2 l = some (cU h) → zd0 3 l = some (.vptr [.int .i64 n, .vs (cUs s)]) → zd0 4 l = some (.mptr nb sn 0) → zd0 5 l = some (.mptr bb sb 0) → zd0 6 l = some (.mptr wb sw 0) → zd0 10 l = some (.int .i64 ((i + 1 : Nat) : Int)) → ∃ m' S', m' < s.length - i ∧ Subm w0 N0 (some none) (st 75 l H'.heap H'.next H'.clk) S' ∧ (∃ i b' H' X', m' = s.length - i ∧ i ≤ s.length ∧ vs.length ≤ i ∧ first ≤ i ∧ (beh vs (lvs (zcw n) (s.drop first) first h)).foldl zcn b = (beh vs (lvs (zcw n) (s.drop i) i h)).foldl zcn b' ∧ b'.1.length ≤ 64 ∧ b'.2 + (lvs (zcw n) (s.drop i) i h).length ≤ 1000000 ∧
   vs.length + X'.length = c ∧ X'.length = X.length ∧ CE n s b' nb sn bb sb wb sw H' ∧ Am.look lb H'.heap = some (sl, .cells (zdn vs X')) ∧ Keep (fun j => j = nb ∨ j = bb ∨ j = lb) H H' ∧
   S' = st 75 [(0, .ms lb sl 1 0 vs.length (some c)), (2, cU h), (3, .vptr [.int .i64 n, .vs (cUs s)]), (4, .mptr nb sn 0), (5, .mptr bb sb 0), (6, .mptr wb sw 0), (10, .int .i64 (i : Nat))] H'.heap H'.next H'.clk) := by
   intro hx l e0 e2 e3 e4 e5 e6 e10
   rw [hx] at hfold hb4
   exact ⟨s.length - (i + 1), _, by omega, zbd (.cons e0 (.cons e2 (.cons e3 (.cons e4 (.cons e5 (.cons e6 (.cons e10 .nil))))))), i + 1, b', H', X', rfl, hlt, by omega, by omega, hfold, hb3, hb4, hX, hXl, hC', hlb', hKp, rfl⟩
  repeat (first | refine zal ?_ | refine za0 rfl ?_ | refine zac ?_ | refine zae ?_ | refine zah ?_ | refine zas ?_ | refine zbm rfl ?_ | refine zab rfl ?_ | refine zau rfl rfl ?_ | refine za6 rfl rfl rfl ?_ | refine zb1 rfl rfl (by omega) (by assumption) rfl ?_)
  refine zbv rfl rfl (zgd _ (0#64)) (fun hx0 => ?_) fun hx0 => ?_
  ·repeat (first | refine zaf rfl rfl (zdb _ _) ?_ | refine zbp rfl ?_ | refine zab rfl ?_)
   refine zbv rfl rfl (zds _ (0#64)) (fun hx1 => ?_) fun hx1 => ?_
   ·have hx : (x != 0#64 && x &&& h == 0#64) = true := by rw [hx0, hx1]; rfl
    rw [hx, if_pos rfl, zsj, zp9, List.foldl_append] at hfold
    rw [hx, if_pos rfl, List.length_append, List.length_map] at hb4
    have hch := zr7 (zcw n) s (i + 1) (h ||| x)
    have hsh : ((beh (vs ++ [(i : Int)]) (zdk (zcw n) s (i + 1) (h ||| x))).foldl zcn b').1.length ≤ 64 := by
     refine zil _ _ (fun y hy => ?_) hb3
     obtain ⟨d, hd, rfl⟩ := List.mem_map.1 hy
     have := hch d hd
     rw [List.length_append, hlv]
     omega
    have hcn : ((beh (vs ++ [(i : Int)]) (zdk (zcw n) s (i + 1) (h ||| x))).foldl zcn b').2 = b'.2 + (zdk (zcw n) s (i + 1) (h ||| x)).length := by
     rw [zik]
     unfold beh
     rw [List.length_map]
    repeat (first | refine zac ?_ | refine zae ?_ | refine zbm rfl ?_ | refine zap rfl rfl ?_)
    by_cases hcc : vs.length + 1 ≤ c
    ·obtain ⟨y, X1, rfl⟩ : ∃ y X1, X' = y :: X1 := by
      cases X' with
      | nil => simp at hX; omega
      | cons y X1 => exact ⟨y, X1, rfl⟩
     refine zro env0_ok 10 [] (fun _ hx => absurd hx List.not_mem_nil) (fun _ => false) (fun j => Nat.beq j wb) (fun j => Nat.beq j lb) (fun j e1 e2 => h11 ((Nat.eq_of_beq_eq_true e2).symm.trans (Nat.eq_of_beq_eq_true e1))) rfl rfl rfl rfl ?_
     refine zcg rfl hC'.hw hC'.lw rfl ?_ (ldOk rfl (Nat.beq_refl wb))
     refine zab rfl (zab rfl (zad rfl rfl ?_))
     refine zf9 [[.int .i64 (i : Nat)]] rfl rfl (zct (ys := []) zbq rfl (fun x hx => by obtain rfl := List.mem_singleton.1 hx; rfl)) rfl (by decide) ((zca hlt').trans hlb') ?_ (by show vs.length + 1 ≤ _; omega) hcc (zc1 lb (sl, .cells (zdn (vs ++ [(i : Int)]) X1)) ((H'.next, H'.clk, .cells [.int .i64 (i : Nat)]) :: H'.heap)) (fun _ => by rw [← zlq (x := y)]; rfl) (fun h => Nat.noConfusion h) ?_ (zs7 rfl (Nat.beq_refl lb))
     ·rw [hll, Nat.mul_one]
      show vs.length + 1 ≤ vs.length + (X1.length + 1)
      omega
     refine zab rfl (zaf (op := .add) rfl rfl rfl (zab rfl (zab rfl (zaf rfl rfl (zfr _ _) (zac (zbj ⟨rfl, fun rd => ?_⟩))))))
     rw [w1]
     have hKn : Keep (fun j => j = lb) H' ⟨zc1 lb (sl, .cells (zdn (vs ++ [(i : Int)]) X1)) ((H'.next, H'.clk, .cells [.int .i64 (i : Nat)]) :: H'.heap), H'.next + 1, H'.clk + 1⟩ := zle (Nat.le_succ _)
     have hft := zon (ih (s.length - (i + 1)) (by omega)) (vs ++ [(i : Int)]) (i + 1) c (h ||| x) b' X1 lb sl ⟨zc1 lb (sl, .cells (zdn (vs ++ [(i : Int)]) X1)) ((H'.next, H'.clk, .cells [.int .i64 (i : Nat)]) :: H'.heap), H'.next + 1, H'.clk + 1⟩ (by omega) (by omega) hb3 (by omega) (by have : (y :: X1).length = X1.length + 1 := rfl; omega) (hC'.keep hKn (fun e => h9 e.symm) (fun e => h10 e.symm) fun e => h11 e.symm)
      (by show Am.look lb (zc1 lb _ _) = _; rw [zay, if_pos rfl]) (Nat.lt_succ_of_lt hlt') h9 h10 h11
     refine AnyF.one 10 (by decide) (znj _ rfl rfl rfl rfl (zhn (by rw [hlv] at hft; exact hft)) (fun _ _ _ _ h => absurd h List.not_mem_nil) fun v H1 hF => ?_)
     obtain ⟨hk1, hC1, X2, hX2, hlb2⟩ := hF
     have hk2 : Keep (fun j => j = nb ∨ j = bb ∨ j = lb) H' H1 := (Keep.mono hKn fun j e => .inr (.inr e)).trans hk1
     have hlb3 : Am.look lb H1.heap = some (sl, .cells (zdn vs (.int .i64 (i : Nat) :: X2))) := by
      rw [hlb2]
      unfold zdn
      rw [List.map_append, List.append_assoc]
      rfl
     refine AnyF.fin (by decide) (Um.ok ?_)
     repeat (first | refine za0 rfl ?_ | refine zac ?_ | refine zae ?_ | refine zbf ?_ | refine zab rfl ?_ | refine zaf (op := .add) rfl rfl rfl ?_)
     rw [w1]
     exact zbw (show s.length - (i + 1) < s.length - i by omega) (zbd (.cons rfl (.cons rfl (.cons rfl (.cons rfl (.cons rfl (.cons rfl (.cons rfl .nil)))))))) ⟨i + 1, _, H1, _, rfl, hlt, by omega, by omega, hfold, hsh, by rw [hcn]; omega, by rw [List.length_cons, hX2]; exact hX, by rw [List.length_cons, hX2]; exact hXl, hC1, hlb3, hKp.trans hk2, rfl⟩
    ·refine zro env0_ok 10 [] (fun _ hx => absurd hx List.not_mem_nil) (fun _ => false) (fun j => Nat.beq j wb) (fun j => Nat.beq j lb) (fun j e1 e2 => h11 ((Nat.eq_of_beq_eq_true e2).symm.trans (Nat.eq_of_beq_eq_true e1))) rfl rfl rfl rfl ?_
     refine zcg rfl hC'.hw hC'.lw rfl ?_ (ldOk rfl (Nat.beq_refl wb))
     refine zab rfl (zab rfl (zad rfl rfl ?_))
     refine zf0 [[.int .i64 (i : Nat)]] rfl rfl (zct (ys := []) zbq rfl (fun x hx => by obtain rfl := List.mem_singleton.1 hx; rfl)) (fun h => Nat.noConfusion h) rfl (by decide) ((zca hlt').trans hlb') (by rw [hll]; omega) (by show vs.length + 1 ≤ _; omega) (by show c < vs.length + 1; omega) ?_ (zs7 rfl (Nat.beq_refl lb))
     refine zab rfl (zaf (op := .add) rfl rfl rfl (zab rfl (zab rfl (zaf rfl rfl (zfr _ _) (zac (zbj ⟨rfl, fun rd => ?_⟩))))))
     rw [w1, zja]
     have hvm : vs.map (AV.int .i64) ++ [[AV.int .i64 (i : Nat)]].flatten = (vs ++ [(i : Int)]).map (AV.int .i64) := by rw [List.map_append]; rfl
     rw [hvm]
     have l1 := hC'.ln
     have l2 := hC'.lb
     have l3 := hC'.lw
     have hKn : Keep (fun _ => False) H' ⟨(H'.next + 1, H'.clk + 1, .cells ((vs ++ [(i : Int)]).map (AV.int .i64))) :: (H'.next, H'.clk, .cells [.int .i64 (i : Nat)]) :: H'.heap, H'.next + 1 + 1, H'.clk + 1 + 1⟩ := zhv (by omega)
     have hft := zom (ih (s.length - (i + 1)) (by omega)) (vs ++ [(i : Int)]) (i + 1) (h ||| x) b' (H'.next + 1) (H'.clk + 1) ⟨(H'.next + 1, H'.clk + 1, .cells ((vs ++ [(i : Int)]).map (AV.int .i64))) :: (H'.next, H'.clk, .cells [.int .i64 (i : Nat)]) :: H'.heap, H'.next + 1 + 1, H'.clk + 1 + 1⟩ (by omega) (by omega) hb3 (by omega) (hC'.keep hKn (fun h => h) (fun h => h) fun h => h)
      zbq (Nat.lt_succ_self _) (by omega) (by omega) (by omega)
     refine AnyF.one 10 (by decide) (znj _ rfl rfl rfl rfl (zhn (by rw [hlv] at hft; exact hft)) (fun _ _ _ _ h => absurd h List.not_mem_nil) fun v H1 hF => ?_)
     obtain ⟨hk1, hC1⟩ := hF
     have hk2 : Keep (fun j => j = nb ∨ j = bb) H' H1 := ⟨Nat.le_trans hKn.next hk1.next, Nat.le_trans hKn.clk hk1.clk, fun j hj hj2 => (hk1.look j (fun h => h.elim (fun e => hj (.inl e)) fun h => h.elim (fun e => hj (.inr e)) fun e => by omega) (by show j < H'.next + 1 + 1; omega)).trans (hKn.look j (fun h => h) hj2)⟩
     have hlb3 : Am.look lb H1.heap = some (sl, .cells (zdn vs X')) := (hk2.look lb (fun h => h.elim h9 h10) hlt').trans hlb'
     have hk2 : Keep (fun j => j = nb ∨ j = bb ∨ j = lb) H' H1 := Keep.mono hk2 fun j h => h.elim .inl fun e => .inr (.inl e)
     refine AnyF.fin (by decide) (Um.ok ?_)
     repeat (first | refine za0 rfl ?_ | refine zac ?_ | refine zae ?_ | refine zbf ?_ | refine zab rfl ?_ | refine zaf (op := .add) rfl rfl rfl ?_)
     rw [w1]
     exact zbw (show s.length - (i + 1) < s.length - i by omega) (zbd (.cons rfl (.cons rfl (.cons rfl (.cons rfl (.cons rfl (.cons rfl (.cons rfl .nil)))))))) ⟨i + 1, _, H1, X', rfl, hlt, by omega, by omega, hfold, hsh, by rw [hcn]; omega, hX, hXl, hC1, hlb3, hKp.trans hk2, rfl⟩
   ·repeat (first | refine za0 rfl ?_ | refine zac ?_ | refine zae ?_ | refine zbf ?_ | refine zas ?_ | refine zbl rfl ?_ | refine zab rfl ?_ | refine zap rfl rfl ?_ | refine zaf (op := .add) rfl rfl rfl ?_)
    rw [w1]
    exact ⟨skip (by rw [hx0, hx1]; rfl) _ rfl rfl rfl rfl rfl rfl rfl⟩
  ·repeat (first | refine za0 rfl ?_ | refine zac ?_ | refine zae ?_ | refine zbf ?_ | refine zas ?_ | refine zbl rfl ?_ | refine zbx rfl rfl ?_ | refine zab rfl ?_ | refine zao rfl rfl ?_ | refine zaf (op := .add) rfl rfl rfl ?_)
   rw [w1]
   exact ⟨skip (by rw [hx0]; rfl) _ rfl rfl rfl rfl rfl rfl rfl⟩
 ·have hi2 : i = s.length := by
   have : ¬ ((i : Nat) : Int) < ((cUs s).length : Nat) := of_decide_eq_false h30
   omega
  rw [hi2, List.drop_length] at hfold
  repeat (first | refine zac ?_ | refine zae ?_ | refine zbl rfl ?_ | refine zb3 ?_ | refine za4 ?_)
  refine zdf ?_
  repeat (first | refine zb2 ?_)
  refine zbj ⟨.inl rfl, _, rfl, hKp, ?_, X', hXl, hlb'⟩
  rw [hfold]
  exact hC'
theorem zre {n : Int} {s : List (BitVec 64)} {w0 : World} {N0 nb sn bb sb wb sw : Nat} (hc0 : zep n s = 0) (hnb : nb ≠ bb) (hnw : nb ≠ wb) (hbw : bb ≠ wb) (r : Nat) : zgz n s w0 N0 nb sn bb sb wb sw r := by
 induction r using Nat.strongRecOn with
 | _ r ih => exact zoo hc0 hnb hnw hbw ih
end Go.Proofs.Ytknomkcdpcnmaaa
