/-
  EXACT COVERS: the search.
-/
import Derived.Test.YtknomkcdpcnmaaaJVE
namespace Go.Proofs.Ytknomkcdpcnmaaa
open Go Go.Am
theorem zjg (A : BitVec 64) : ∀ (t : List (BitVec 64)) (i : Nat) (h : BitVec 64), ∀ c ∈ lvs A t i h, c.length ≤ t.length
 | [], _, _, c, hc => by cases hc
 | x :: xs, i, h, c, hc => by
  rw [lvs, List.mem_append] at hc
  rcases hc with hc | hc
  ·split at hc
   ·obtain ⟨d, hd, rfl⟩ := List.mem_map.1 hc
    split at hd
    ·obtain rfl := List.mem_singleton.1 hd
     simp
    ·have := zjg A xs _ _ d hd
     simp only [List.length_cons]
     omega
   ·cases hc
  ·have := zjg A xs _ _ c hc
   simp only [List.length_cons]
   omega
theorem zrv (A : BitVec 64) (s : List (BitVec 64)) (i : Nat) (h : BitVec 64) : ∀ c ∈ ze3 A s i h, c.length ≤ s.length - i := fun c hc => by
 unfold ze3 at hc
 split at hc
 ·obtain rfl := List.mem_singleton.1 hc
  simp
 ·have := zjg A _ _ _ c hc
  rwa [List.length_drop] at this
theorem lvs_step {A : BitVec 64} {s : List (BitVec 64)} {i : Nat} (hi : i < s.length) (h : BitVec 64) : lvs A (s.drop i) i h = (if s[i] != 0#64 && s[i] &&& h == 0#64 then (ze3 A s (i + 1) (h ||| s[i])).map fun c => ((i : Nat) : Int) :: c else []) ++ lvs A (s.drop (i + 1)) (i + 1) h := by
 rw [List.drop_eq_getElem_cons hi, lvs]
 rfl
set_option maxHeartbeats 8000000 in
theorem zp5 {n : Int} {s : List (BitVec 64)} {w0 : World} {N0 nb sn bb sb wb sw r : Nat} (hc0 : zek n s = 0) (hnb : nb ≠ bb) (hnw : nb ≠ wb) (hbw : bb ≠ wb) (ih : ∀ r' < r, zh7 n s w0 N0 nb sn bb sb wb sw r') : zh7 n s w0 N0 nb sn bb sb wb sw r := by
 intro vs first c h b X lb sl H h1 h2 h3 h4 h5 h6 h7 h8 h9 h10 h11
 obtain ⟨n0, n1, s1, _⟩ := zfc hc0
 cases hA : h == zcy n with
 | true =>
  have hn : ze3 (zcy n) s first h = [[]] := by unfold ze3; rw [hA]; rfl
  have hb : beh vs [[]] = [vs] := by unfold beh; simp
  rw [hn] at h4 ⊢
  rw [hb, List.foldl_cons, List.foldl_nil]
  exact foundE hc0 hnb hnw hbw vs first c h b X lb sl H (by omega) h3 h4 h6 h7 h8 h9 h10 h11 hA
 | false =>
 have hn : ze3 (zcy n) s first h = lvs (zcy n) (s.drop first) first h := by unfold ze3; rw [hA]; rfl
 rw [hn] at h4 ⊢
 have pA := zrb n0 n1
 have hcl := zcf s
 unfold ic42 tE
 repeat (first | refine za7 ?_ | refine za0 rfl ?_ | refine za1 rfl ?_ | refine zam rfl rfl ?_ | refine zad rfl rfl rfl ?_)
 refine zbq rfl rfl pA (fun h => Bool.noConfusion (show false = true from h)) ?_
 refine zb6 rfl rfl ((zev _ _).trans (by rw [hA])) ?_
 repeat (first | refine za7 ?_ | refine za0 rfl ?_ | refine za5 ?_ | refine za6 ?_ | refine zaf ?_ | refine zag ?_ | refine zby rfl ?_ | refine za1 rfl ?_)
 refine zcv (fun mm S => ∃ i b' H' X', mm = s.length - i ∧ i ≤ s.length ∧ vs.length ≤ i ∧ first ≤ i ∧ (beh vs (lvs (zcy n) (s.drop first) first h)).foldl zde b = (beh vs (lvs (zcy n) (s.drop i) i h)).foldl zde b' ∧ b'.1.length ≤ 64 ∧ b'.2 + (lvs (zcy n) (s.drop i) i h).length ≤ 1000000 ∧
   vs.length + X'.length = c ∧ X'.length = X.length ∧ CE n s b' nb sn bb sb wb sw H' ∧ Am.look lb H'.heap = some (sl, .cells (zdl vs X')) ∧ Keep (fun j => j = nb ∨ j = bb ∨ j = lb) H H' ∧
   S = st 75 [(0, .ms lb sl 1 0 vs.length (some c)), (2, cU h), (3, .vptr [.int .i64 n, .vs (cUs s)]), (4, .mptr nb sn 0), (5, .mptr bb sb 0), (6, .mptr wb sw 0), (10, .int .i64 (i : Nat))] H'.heap H'.next H'.clk) (s.length - first)
  (zao (.cons rfl (.cons rfl (.cons rfl (.cons rfl (.cons rfl (.cons rfl (.cons rfl .nil)))))))) ⟨first, b, H, X, rfl, by omega, h2, Nat.le_refl _, rfl, h3, h4, h5, rfl, h6, h7, .refl _ _, rfl⟩ ?_
 rintro mm S ⟨i, b', H', X', rfl, hi, hvi, hfi, hfold, hb3, hb4, hX, hXl, hC', hlb', hKp, rfl⟩
 have hlt' : lb < H'.next := Nat.lt_of_lt_of_le h8 hKp.next
 have hll := zm8 vs X'
 unfold b42_0
 repeat (first | refine za7 ?_ | refine za0 rfl ?_ | refine za1 rfl ?_ | refine zam rfl rfl ?_ | refine zad rfl rfl rfl ?_ | refine zbc rfl rfl ?_)
 refine zbr rfl rfl rfl (fun h30 => ?_) fun h30 => ?_
 ·have hlt : i < s.length := by
   have : ((i : Nat) : Int) < ((cUs s).length : Nat) := of_decide_eq_true h30
   omega
  have hg := zga hlt
  have w1 : IntKind.wrap .i64 (((i : Nat) : Int) + 1) = ((i + 1 : Nat) : Int) := zbs i (by omega)
  have hlv : (vs ++ [(i : Int)]).length = vs.length + 1 := by simp
  rw [lvs_step hlt] at hfold hb4
  generalize s[i] = x at *
  -- a set that is left out
  have skip : (x != 0#64 && x &&& h == 0#64) = false → ∀ (l : List (Nat × AV)), zc6 0 l = some (.ms lb sl 1 0 vs.length (some c)) → zc6 2 l = some (cU h) → zc6 3 l = some (.vptr [.int .i64 n, .vs (cUs s)]) → zc6 4 l = some (.mptr nb sn 0) → zc6 5 l = some (.mptr bb sb 0) → zc6 6 l = some (.mptr wb sw 0) → zc6 10 l = some (.int .i64 ((i + 1 : Nat) : Int)) → ∃ m' S', m' < s.length - i ∧ Subm w0 N0 (some none) (st 75 l H'.heap H'.next H'.clk) S' ∧ (∃ i b' H' X', m' = s.length - i ∧ i ≤ s.length ∧ vs.length ≤ i ∧ first ≤ i ∧ (beh vs (lvs (zcy n) (s.drop first) first h)).foldl zde b = (beh vs (lvs (zcy n) (s.drop i) i h)).foldl zde b' ∧ b'.1.length ≤ 64 ∧ b'.2 + (lvs (zcy n) (s.drop i) i h).length ≤ 1000000 ∧
   vs.length + X'.length = c ∧ X'.length = X.length ∧ CE n s b' nb sn bb sb wb sw H' ∧ Am.look lb H'.heap = some (sl, .cells (zdl vs X')) ∧ Keep (fun j => j = nb ∨ j = bb ∨ j = lb) H H' ∧
   S' = st 75 [(0, .ms lb sl 1 0 vs.length (some c)), (2, cU h), (3, .vptr [.int .i64 n, .vs (cUs s)]), (4, .mptr nb sn 0), (5, .mptr bb sb 0), (6, .mptr wb sw 0), (10, .int .i64 (i : Nat))] H'.heap H'.next H'.clk) := by
   intro hx l e0 e2 e3 e4 e5 e6 e10
   rw [hx] at hfold hb4
   exact ⟨s.length - (i + 1), _, by omega, zao (.cons e0 (.cons e2 (.cons e3 (.cons e4 (.cons e5 (.cons e6 (.cons e10 .nil))))))), i + 1, b', H', X', rfl, hlt, by omega, by omega, hfold, hb3, hb4, hX, hXl, hC', hlb', hKp, rfl⟩
  repeat (first | refine za7 ?_ | refine za0 rfl ?_ | refine za5 ?_ | refine za6 ?_ | refine zaf ?_ | refine zag ?_ | refine zbz rfl ?_ | refine za1 rfl ?_ | refine zam rfl rfl ?_ | refine zad rfl rfl rfl ?_ | refine zb7 rfl rfl (by omega) (by assumption) rfl ?_)
  refine zbr rfl rfl (zfq _ (0#64)) (fun hx0 => ?_) fun hx0 => ?_
  ·repeat (first | refine zae rfl rfl (ze1 _ _) ?_ | refine zck rfl ?_ | refine za1 rfl ?_)
   refine zbr rfl rfl (zev _ (0#64)) (fun hx1 => ?_) fun hx1 => ?_
   ·have hx : (x != 0#64 && x &&& h == 0#64) = true := by rw [hx0, hx1]; rfl
    rw [hx, if_pos rfl, ztb, zpo, List.foldl_append] at hfold
    rw [hx, if_pos rfl, List.length_append, List.length_map] at hb4
    have hch := zrv (zcy n) s (i + 1) (h ||| x)
    have hsh : ((beh (vs ++ [(i : Int)]) (ze3 (zcy n) s (i + 1) (h ||| x))).foldl zde b').1.length ≤ 64 := by
     refine zj2 _ _ (fun y hy => ?_) hb3
     obtain ⟨d, hd, rfl⟩ := List.mem_map.1 hy
     have := hch d hd
     rw [List.length_append, hlv]
     omega
    have hcn : ((beh (vs ++ [(i : Int)]) (ze3 (zcy n) s (i + 1) (h ||| x))).foldl zde b').2 = b'.2 + (ze3 (zcy n) s (i + 1) (h ||| x)).length := by
     rw [zj1]
     unfold beh
     rw [List.length_map]
    repeat (first | refine za5 ?_ | refine za6 ?_ | refine zbz rfl ?_ | refine zap rfl rfl ?_)
    by_cases hcc : vs.length + 1 ≤ c
    ·obtain ⟨y, X1, rfl⟩ : ∃ y X1, X' = y :: X1 := by
      cases X' with
      | nil => simp at hX; omega
      | cons y X1 => exact ⟨y, X1, rfl⟩
     refine zsd env0_ok 10 [] (fun _ hx => absurd hx List.not_mem_nil) (fun _ => false) (fun j => Nat.beq j wb) (fun j => Nat.beq j lb) (fun j e1 e2 => h11 ((Nat.eq_of_beq_eq_true e2).symm.trans (Nat.eq_of_beq_eq_true e1))) rfl rfl rfl rfl ?_
     refine zcl rfl hC'.hw hC'.lw rfl ?_ (ldOk rfl (Nat.beq_refl wb))
     refine za1 rfl (za1 rfl (zal rfl rfl ?_))
     refine zeg [[.int .i64 (i : Nat)]] rfl rfl (zdu (ys := []) zbp rfl (fun x hx => by obtain rfl := List.mem_singleton.1 hx; rfl)) rfl (by decide) ((zcd hlt').trans hlb') ?_ (by show vs.length + 1 ≤ _; omega) hcc (zbw lb (sl, .cells (zdl (vs ++ [(i : Int)]) X1)) ((H'.next, H'.clk, .cells [.int .i64 (i : Nat)]) :: H'.heap)) (fun _ => by rw [← zm9 (x := y)]; rfl) (fun h => Nat.noConfusion h) ?_ (zsz rfl (Nat.beq_refl lb))
     ·rw [hll, Nat.mul_one]
      show vs.length + 1 ≤ vs.length + (X1.length + 1)
      omega
     refine za1 rfl (zae (op := .add) rfl rfl rfl (za1 rfl (za1 rfl (zae rfl rfl (zin _ _) (za5 (zba ⟨rfl, fun rd => ?_⟩))))))
     rw [w1]
     have hKn : Keep (fun j => j = lb) H' ⟨zbw lb (sl, .cells (zdl (vs ++ [(i : Int)]) X1)) ((H'.next, H'.clk, .cells [.int .i64 (i : Nat)]) :: H'.heap), H'.next + 1, H'.clk + 1⟩ := zlx (Nat.le_succ _)
     have hft := zp4 (ih (s.length - (i + 1)) (by omega)) (vs ++ [(i : Int)]) (i + 1) c (h ||| x) b' X1 lb sl ⟨zbw lb (sl, .cells (zdl (vs ++ [(i : Int)]) X1)) ((H'.next, H'.clk, .cells [.int .i64 (i : Nat)]) :: H'.heap), H'.next + 1, H'.clk + 1⟩ (by omega) (by omega) hb3 (by omega) (by have : (y :: X1).length = X1.length + 1 := rfl; omega) (hC'.keep hKn (fun e => h9 e.symm) (fun e => h10 e.symm) fun e => h11 e.symm)
      (by show Am.look lb (zbw lb _ _) = _; rw [zaa, if_pos rfl]) (Nat.lt_succ_of_lt hlt') h9 h10 h11
     refine AnyF.one 10 (by decide) (zii _ rfl rfl rfl rfl (zhz (by rw [hlv] at hft; exact hft)) (fun _ _ _ _ h => absurd h List.not_mem_nil) fun v H1 hF => ?_)
     obtain ⟨hk1, hC1, X2, hX2, hlb2⟩ := hF
     have hk2 : Keep (fun j => j = nb ∨ j = bb ∨ j = lb) H' H1 := (Keep.mono hKn fun j e => .inr (.inr e)).trans hk1
     have hlb3 : Am.look lb H1.heap = some (sl, .cells (zdl vs (.int .i64 (i : Nat) :: X2))) := by
      rw [hlb2]
      unfold zdl
      rw [List.map_append, List.append_assoc]
      rfl
     refine AnyF.fin (by decide) (Um.ok ?_)
     repeat (first | refine za0 rfl ?_ | refine za5 ?_ | refine za6 ?_ | refine zbe ?_ | refine za1 rfl ?_ | refine zae (op := .add) rfl rfl rfl ?_)
     rw [w1]
     exact zbv (show s.length - (i + 1) < s.length - i by omega) (zao (.cons rfl (.cons rfl (.cons rfl (.cons rfl (.cons rfl (.cons rfl (.cons rfl .nil)))))))) ⟨i + 1, _, H1, _, rfl, hlt, by omega, by omega, hfold, hsh, by rw [hcn]; omega, by rw [List.length_cons, hX2]; exact hX, by rw [List.length_cons, hX2]; exact hXl, hC1, hlb3, hKp.trans hk2, rfl⟩
    ·refine zsd env0_ok 10 [] (fun _ hx => absurd hx List.not_mem_nil) (fun _ => false) (fun j => Nat.beq j wb) (fun j => Nat.beq j lb) (fun j e1 e2 => h11 ((Nat.eq_of_beq_eq_true e2).symm.trans (Nat.eq_of_beq_eq_true e1))) rfl rfl rfl rfl ?_
     refine zcl rfl hC'.hw hC'.lw rfl ?_ (ldOk rfl (Nat.beq_refl wb))
     refine za1 rfl (za1 rfl (zal rfl rfl ?_))
     refine zf4 [[.int .i64 (i : Nat)]] rfl rfl (zdu (ys := []) zbp rfl (fun x hx => by obtain rfl := List.mem_singleton.1 hx; rfl)) (fun h => Nat.noConfusion h) rfl (by decide) ((zcd hlt').trans hlb') (by rw [hll]; omega) (by show vs.length + 1 ≤ _; omega) (by show c < vs.length + 1; omega) ?_ (zsz rfl (Nat.beq_refl lb))
     refine za1 rfl (zae (op := .add) rfl rfl rfl (za1 rfl (za1 rfl (zae rfl rfl (zin _ _) (za5 (zba ⟨rfl, fun rd => ?_⟩))))))
     rw [w1, zjs]
     have hvm : vs.map (AV.int .i64) ++ [[AV.int .i64 (i : Nat)]].flatten = (vs ++ [(i : Int)]).map (AV.int .i64) := by rw [List.map_append]; rfl
     rw [hvm]
     have l1 := hC'.ln
     have l2 := hC'.lb
     have l3 := hC'.lw
     have hKn : Keep (fun _ => False) H' ⟨(H'.next + 1, H'.clk + 1, .cells ((vs ++ [(i : Int)]).map (AV.int .i64))) :: (H'.next, H'.clk, .cells [.int .i64 (i : Nat)]) :: H'.heap, H'.next + 1 + 1, H'.clk + 1 + 1⟩ := zi8 (by omega)
     have hft := zp3 (ih (s.length - (i + 1)) (by omega)) (vs ++ [(i : Int)]) (i + 1) (h ||| x) b' (H'.next + 1) (H'.clk + 1) ⟨(H'.next + 1, H'.clk + 1, .cells ((vs ++ [(i : Int)]).map (AV.int .i64))) :: (H'.next, H'.clk, .cells [.int .i64 (i : Nat)]) :: H'.heap, H'.next + 1 + 1, H'.clk + 1 + 1⟩ (by omega) (by omega) hb3 (by omega) (hC'.keep hKn (fun h => h) (fun h => h) fun h => h)
      zbp (Nat.lt_succ_self _) (by omega) (by omega) (by omega)
     refine AnyF.one 10 (by decide) (zii _ rfl rfl rfl rfl (zhz (by rw [hlv] at hft; exact hft)) (fun _ _ _ _ h => absurd h List.not_mem_nil) fun v H1 hF => ?_)
     obtain ⟨hk1, hC1⟩ := hF
     have hk2 : Keep (fun j => j = nb ∨ j = bb) H' H1 := ⟨Nat.le_trans hKn.next hk1.next, Nat.le_trans hKn.clk hk1.clk, fun j hj hj2 => (hk1.look j (fun h => h.elim (fun e => hj (.inl e)) fun h => h.elim (fun e => hj (.inr e)) fun e => by omega) (by show j < H'.next + 1 + 1; omega)).trans (hKn.look j (fun h => h) hj2)⟩
     have hlb3 : Am.look lb H1.heap = some (sl, .cells (zdl vs X')) := (hk2.look lb (fun h => h.elim h9 h10) hlt').trans hlb'
     have hk2 : Keep (fun j => j = nb ∨ j = bb ∨ j = lb) H' H1 := Keep.mono hk2 fun j h => h.elim .inl fun e => .inr (.inl e)
     refine AnyF.fin (by decide) (Um.ok ?_)
     repeat (first | refine za0 rfl ?_ | refine za5 ?_ | refine za6 ?_ | refine zbe ?_ | refine za1 rfl ?_ | refine zae (op := .add) rfl rfl rfl ?_)
     rw [w1]
     exact zbv (show s.length - (i + 1) < s.length - i by omega) (zao (.cons rfl (.cons rfl (.cons rfl (.cons rfl (.cons rfl (.cons rfl (.cons rfl .nil)))))))) ⟨i + 1, _, H1, X', rfl, hlt, by omega, by omega, hfold, hsh, by rw [hcn]; omega, hX, hXl, hC1, hlb3, hKp.trans hk2, rfl⟩
   ·repeat (first | refine za0 rfl ?_ | refine za5 ?_ | refine za6 ?_ | refine zbe ?_ | refine zag ?_ | refine zby rfl ?_ | refine za1 rfl ?_ | refine zap rfl rfl ?_ | refine zae (op := .add) rfl rfl rfl ?_)
    rw [w1]
    exact ⟨skip (by rw [hx0, hx1]; rfl) _ rfl rfl rfl rfl rfl rfl rfl⟩
  ·repeat (first | refine za0 rfl ?_ | refine za5 ?_ | refine za6 ?_ | refine zbe ?_ | refine zag ?_ | refine zby rfl ?_ | refine zd4 rfl rfl ?_ | refine za1 rfl ?_ | refine zan rfl rfl ?_ | refine zae (op := .add) rfl rfl rfl ?_)
   rw [w1]
   exact ⟨skip (by rw [hx0]; rfl) _ rfl rfl rfl rfl rfl rfl rfl⟩
 ·have hi2 : i = s.length := by
   have : ¬ ((i : Nat) : Int) < ((cUs s).length : Nat) := of_decide_eq_false h30
   omega
  rw [hi2, List.drop_length] at hfold
  repeat (first | refine za5 ?_ | refine za6 ?_ | refine zby rfl ?_ | refine zb2 ?_ | refine za8 ?_)
  refine ze6 ?_
  repeat (first | refine zb1 ?_)
  refine zba ⟨.inl rfl, _, rfl, hKp, ?_, X', hXl, hlb'⟩
  rw [hfold]
  exact hC'
theorem zs3 {n : Int} {s : List (BitVec 64)} {w0 : World} {N0 nb sn bb sb wb sw : Nat} (hc0 : zek n s = 0) (hnb : nb ≠ bb) (hnw : nb ≠ wb) (hbw : bb ≠ wb) (r : Nat) : zh7 n s w0 N0 nb sn bb sb wb sw r := by
 induction r using Nat.strongRecOn with
 | _ r ih => exact zp5 hc0 hnb hnw hbw ih
end Go.Proofs.Ytknomkcdpcnmaaa
