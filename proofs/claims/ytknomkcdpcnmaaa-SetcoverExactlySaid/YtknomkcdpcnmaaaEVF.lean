/-
  EXACT COVERS: the search.
-/
import Derived.Test.YtknomkcdpcnmaaaEVE
namespace Go.Proofs.Ytknomkcdpcnmaaa
open Go Go.Am
theorem zj7 (A : BitVec 64) : ∀ (t : List (BitVec 64)) (i : Nat) (h : BitVec 64), ∀ c ∈ lvs A t i h, c.length ≤ t.length
 | [], _, _, c, hc => by cases hc
 | x :: xs, i, h, c, hc => by
  rw [lvs, List.mem_append] at hc
  rcases hc with hc | hc
  ·split at hc
   ·obtain ⟨d, hd, rfl⟩ := List.mem_map.1 hc
    split at hd
    ·obtain rfl := List.mem_singleton.1 hd
     simp
    ·have := zj7 A xs _ _ d hd
     simp only [List.length_cons]
     omega
   ·cases hc
  ·have := zj7 A xs _ _ c hc
   simp only [List.length_cons]
   omega
theorem zrn (A : BitVec 64) (s : List (BitVec 64)) (i : Nat) (h : BitVec 64) : ∀ c ∈ zd6 A s i h, c.length ≤ s.length - i := fun c hc => by
 unfold zd6 at hc
 split at hc
 ·obtain rfl := List.mem_singleton.1 hc
  simp
 ·have := zj7 A _ _ _ c hc
  rwa [List.length_drop] at this
theorem lvs_step {A : BitVec 64} {s : List (BitVec 64)} {i : Nat} (hi : i < s.length) (h : BitVec 64) : lvs A (s.drop i) i h = (if s[i] != 0#64 && s[i] &&& h == 0#64 then (zd6 A s (i + 1) (h ||| s[i])).map fun c => ((i : Nat) : Int) :: c else []) ++ lvs A (s.drop (i + 1)) (i + 1) h := by
 rw [List.drop_eq_getElem_cons hi, lvs]
 rfl
set_option maxHeartbeats 8000000 in
theorem zp1 {n : Int} {s : List (BitVec 64)} {w0 : World} {N0 nb sn bb sb wb sw r : Nat} (hc0 : ze8 n s = 0) (hnb : nb ≠ bb) (hnw : nb ≠ wb) (hbw : bb ≠ wb) (ih : ∀ r' < r, zgw n s w0 N0 nb sn bb sb wb sw r') : zgw n s w0 N0 nb sn bb sb wb sw r := by
 intro vs first c h b X lb sl H h1 h2 h3 h4 h5 h6 h7 h8 h9 h10 h11
 obtain ⟨n0, n1, s1, _⟩ := zf2 hc0
 cases hA : h == zce n with
 | true =>
  have hn : zd6 (zce n) s first h = [[]] := by unfold zd6; rw [hA]; rfl
  have hb : beh vs [[]] = [vs] := by unfold beh; simp
  rw [hn] at h4 ⊢
  rw [hb, List.foldl_cons, List.foldl_nil]
  exact foundE hc0 hnb hnw hbw vs first c h b X lb sl H (by omega) h3 h4 h6 h7 h8 h9 h10 h11 hA
 | false =>
 have hn : zd6 (zce n) s first h = lvs (zce n) (s.drop first) first h := by unfold zd6; rw [hA]; rfl
 rw [hn] at h4 ⊢
 have pA := zsm n0 n1
 have hcl := zbh s
 unfold ic42 tE
 repeat (first | refine za6 ?_ | refine za0 rfl ?_ | refine za1 rfl ?_ | refine zah rfl rfl ?_ | refine za9 rfl rfl rfl ?_)
 refine zay rfl rfl pA (fun h => Bool.noConfusion (show false = true from h)) ?_
 refine zb5 rfl rfl ((zdf _ _).trans (by rw [hA])) ?_
 repeat (first | refine za6 ?_ | refine za0 rfl ?_ | refine za3 ?_ | refine za4 ?_ | refine zai ?_ | refine zad ?_ | refine zbt rfl ?_ | refine za1 rfl ?_)
 refine zcr (fun mm S => ∃ i b' H' X', mm = s.length - i ∧ i ≤ s.length ∧ vs.length ≤ i ∧ first ≤ i ∧ (beh vs (lvs (zce n) (s.drop first) first h)).foldl zbu b = (beh vs (lvs (zce n) (s.drop i) i h)).foldl zbu b' ∧ b'.1.length ≤ 64 ∧ b'.2 + (lvs (zce n) (s.drop i) i h).length ≤ 1000000 ∧
   vs.length + X'.length = c ∧ X'.length = X.length ∧ CE n s b' nb sn bb sb wb sw H' ∧ Am.look lb H'.heap = some (sl, .cells (zd9 vs X')) ∧ Keep (fun j => j = nb ∨ j = bb ∨ j = lb) H H' ∧
   S = st 75 [(0, .ms lb sl 1 0 vs.length (some c)), (2, cU h), (3, .vptr [.int .i64 n, .vs (cUs s)]), (4, .mptr nb sn 0), (5, .mptr bb sb 0), (6, .mptr wb sw 0), (10, .int .i64 (i : Nat))] H'.heap H'.next H'.clk) (s.length - first)
  (zaa (.cons rfl (.cons rfl (.cons rfl (.cons rfl (.cons rfl (.cons rfl (.cons rfl .nil)))))))) ⟨first, b, H, X, rfl, by omega, h2, Nat.le_refl _, rfl, h3, h4, h5, rfl, h6, h7, .refl _ _, rfl⟩ ?_
 rintro mm S ⟨i, b', H', X', rfl, hi, hvi, hfi, hfold, hb3, hb4, hX, hXl, hC', hlb', hKp, rfl⟩
 have hlt' : lb < H'.next := Nat.lt_of_lt_of_le h8 hKp.next
 have hll := zm3 vs X'
 unfold b42_0
 repeat (first | refine za6 ?_ | refine za0 rfl ?_ | refine za1 rfl ?_ | refine zah rfl rfl ?_ | refine za9 rfl rfl rfl ?_ | refine zbf rfl rfl ?_)
 refine zax rfl rfl rfl (fun h30 => ?_) fun h30 => ?_
 ·have hlt : i < s.length := by
   have : ((i : Nat) : Int) < ((cUs s).length : Nat) := of_decide_eq_true h30
   omega
  have hg := zid hlt
  have w1 : IntKind.wrap .i64 (((i : Nat) : Int) + 1) = ((i + 1 : Nat) : Int) := zb0 i (by omega)
  have hlv : (vs ++ [(i : Int)]).length = vs.length + 1 := by simp
  rw [lvs_step hlt] at hfold hb4
  generalize s[i] = x at *
  -- a set that is left out
  have skip : (x != 0#64 && x &&& h == 0#64) = false → ∀ (l : List (Nat × AV)), zbm 0 l = some (.ms lb sl 1 0 vs.length (some c)) → zbm 2 l = some (cU h) → zbm 3 l = some (.vptr [.int .i64 n, .vs (cUs s)]) → zbm 4 l = some (.mptr nb sn 0) → zbm 5 l = some (.mptr bb sb 0) → zbm 6 l = some (.mptr wb sw 0) → zbm 10 l = some (.int .i64 ((i + 1 : Nat) : Int)) → ∃ m' S', m' < s.length - i ∧ Subm w0 N0 (some none) (st 75 l H'.heap H'.next H'.clk) S' ∧ (∃ i b' H' X', m' = s.length - i ∧ i ≤ s.length ∧ vs.length ≤ i ∧ first ≤ i ∧ (beh vs (lvs (zce n) (s.drop first) first h)).foldl zbu b = (beh vs (lvs (zce n) (s.drop i) i h)).foldl zbu b' ∧ b'.1.length ≤ 64 ∧ b'.2 + (lvs (zce n) (s.drop i) i h).length ≤ 1000000 ∧
   vs.length + X'.length = c ∧ X'.length = X.length ∧ CE n s b' nb sn bb sb wb sw H' ∧ Am.look lb H'.heap = some (sl, .cells (zd9 vs X')) ∧ Keep (fun j => j = nb ∨ j = bb ∨ j = lb) H H' ∧
   S' = st 75 [(0, .ms lb sl 1 0 vs.length (some c)), (2, cU h), (3, .vptr [.int .i64 n, .vs (cUs s)]), (4, .mptr nb sn 0), (5, .mptr bb sb 0), (6, .mptr wb sw 0), (10, .int .i64 (i : Nat))] H'.heap H'.next H'.clk) := by
   intro hx l e0 e2 e3 e4 e5 e6 e10
   rw [hx] at hfold hb4
   exact ⟨s.length - (i + 1), _, by omega, zaa (.cons e0 (.cons e2 (.cons e3 (.cons e4 (.cons e5 (.cons e6 (.cons e10 .nil))))))), i + 1, b', H', X', rfl, hlt, by omega, by omega, hfold, hb3, hb4, hX, hXl, hC', hlb', hKp, rfl⟩
  repeat (first | refine za6 ?_ | refine za0 rfl ?_ | refine za3 ?_ | refine za4 ?_ | refine zai ?_ | refine zad ?_ | refine zc1 rfl ?_ | refine za1 rfl ?_ | refine zah rfl rfl ?_ | refine za9 rfl rfl rfl ?_ | refine zba rfl rfl (by omega) (by assumption) rfl ?_)
  refine zax rfl rfl (zht _ (0#64)) (fun hx0 => ?_) fun hx0 => ?_
  ·repeat (first | refine zac rfl rfl (ze1 _ _) ?_ | refine zcp rfl ?_ | refine za1 rfl ?_)
   refine zax rfl rfl (zdf _ (0#64)) (fun hx1 => ?_) fun hx1 => ?_
   ·have hx : (x != 0#64 && x &&& h == 0#64) = true := by rw [hx0, hx1]; rfl
    rw [hx, if_pos rfl, zt2, zpk, List.foldl_append] at hfold
    rw [hx, if_pos rfl, List.length_append, List.length_map] at hb4
    have hch := zrn (zce n) s (i + 1) (h ||| x)
    have hsh : ((beh (vs ++ [(i : Int)]) (zd6 (zce n) s (i + 1) (h ||| x))).foldl zbu b').1.length ≤ 64 := by
     refine zit _ _ (fun y hy => ?_) hb3
     obtain ⟨d, hd, rfl⟩ := List.mem_map.1 hy
     have := hch d hd
     rw [List.length_append, hlv]
     omega
    have hcn : ((beh (vs ++ [(i : Int)]) (zd6 (zce n) s (i + 1) (h ||| x))).foldl zbu b').2 = b'.2 + (zd6 (zce n) s (i + 1) (h ||| x)).length := by
     rw [zis]
     unfold beh
     rw [List.length_map]
    repeat (first | refine za3 ?_ | refine za4 ?_ | refine zc1 rfl ?_ | refine zan rfl rfl ?_)
    by_cases hcc : vs.length + 1 ≤ c
    ·obtain ⟨y, X1, rfl⟩ : ∃ y X1, X' = y :: X1 := by
      cases X' with
      | nil => simp at hX; omega
      | cons y X1 => exact ⟨y, X1, rfl⟩
     refine zs6 env0_ok 10 [] (fun _ hx => absurd hx List.not_mem_nil) (fun _ => false) (fun j => Nat.beq j wb) (fun j => Nat.beq j lb) (fun j e1 e2 => h11 ((Nat.eq_of_beq_eq_true e2).symm.trans (Nat.eq_of_beq_eq_true e1))) rfl rfl rfl rfl ?_
     refine zbw rfl hC'.hw hC'.lw rfl ?_ (ldOk rfl (Nat.beq_refl wb))
     refine za1 rfl (za1 rfl (zbg rfl rfl ?_))
     refine zf7 [[.int .i64 (i : Nat)]] rfl rfl (zdj (ys := []) zav rfl (fun x hx => by obtain rfl := List.mem_singleton.1 hx; rfl)) rfl (by decide) ((zak hlt').trans hlb') ?_ (by show vs.length + 1 ≤ _; omega) hcc (zaz lb (sl, .cells (zd9 (vs ++ [(i : Int)]) X1)) ((H'.next, H'.clk, .cells [.int .i64 (i : Nat)]) :: H'.heap)) (fun _ => by rw [← zm4 (x := y)]; rfl) (fun h => Nat.noConfusion h) ?_ (zss rfl (Nat.beq_refl lb))
     ·rw [hll, Nat.mul_one]
      show vs.length + 1 ≤ vs.length + (X1.length + 1)
      omega
     refine za1 rfl (zac (op := .add) rfl rfl rfl (za1 rfl (za1 rfl (zac rfl rfl (zhg _ _) (za3 (zal ⟨rfl, fun rd => ?_⟩))))))
     rw [w1]
     have hKn : Keep (fun j => j = lb) H' ⟨zaz lb (sl, .cells (zd9 (vs ++ [(i : Int)]) X1)) ((H'.next, H'.clk, .cells [.int .i64 (i : Nat)]) :: H'.heap), H'.next + 1, H'.clk + 1⟩ := zlr (Nat.le_succ _)
     have hft := zp0 (ih (s.length - (i + 1)) (by omega)) (vs ++ [(i : Int)]) (i + 1) c (h ||| x) b' X1 lb sl ⟨zaz lb (sl, .cells (zd9 (vs ++ [(i : Int)]) X1)) ((H'.next, H'.clk, .cells [.int .i64 (i : Nat)]) :: H'.heap), H'.next + 1, H'.clk + 1⟩ (by omega) (by omega) hb3 (by omega) (by have : (y :: X1).length = X1.length + 1 := rfl; omega) (hC'.keep hKn (fun e => h9 e.symm) (fun e => h10 e.symm) fun e => h11 e.symm)
      (by show Am.look lb (zaz lb _ _) = _; rw [za5, if_pos rfl]) (Nat.lt_succ_of_lt hlt') h9 h10 h11
     refine AnyF.one 10 (by decide) (zml _ rfl rfl rfl rfl (zho (by rw [hlv] at hft; exact hft)) (fun _ _ _ _ h => absurd h List.not_mem_nil) fun v H1 hF => ?_)
     obtain ⟨hk1, hC1, X2, hX2, hlb2⟩ := hF
     have hk2 : Keep (fun j => j = nb ∨ j = bb ∨ j = lb) H' H1 := (Keep.mono hKn fun j e => .inr (.inr e)).trans hk1
     have hlb3 : Am.look lb H1.heap = some (sl, .cells (zd9 vs (.int .i64 (i : Nat) :: X2))) := by
      rw [hlb2]
      unfold zd9
      rw [List.map_append, List.append_assoc]
      rfl
     refine AnyF.fin (by decide) (Um.ok ?_)
     repeat (first | refine za0 rfl ?_ | refine za3 ?_ | refine za4 ?_ | refine zbj ?_ | refine za1 rfl ?_ | refine zac (op := .add) rfl rfl rfl ?_)
     rw [w1]
     exact zb4 (show s.length - (i + 1) < s.length - i by omega) (zaa (.cons rfl (.cons rfl (.cons rfl (.cons rfl (.cons rfl (.cons rfl (.cons rfl .nil)))))))) ⟨i + 1, _, H1, _, rfl, hlt, by omega, by omega, hfold, hsh, by rw [hcn]; omega, by rw [List.length_cons, hX2]; exact hX, by rw [List.length_cons, hX2]; exact hXl, hC1, hlb3, hKp.trans hk2, rfl⟩
    ·refine zs6 env0_ok 10 [] (fun _ hx => absurd hx List.not_mem_nil) (fun _ => false) (fun j => Nat.beq j wb) (fun j => Nat.beq j lb) (fun j e1 e2 => h11 ((Nat.eq_of_beq_eq_true e2).symm.trans (Nat.eq_of_beq_eq_true e1))) rfl rfl rfl rfl ?_
     refine zbw rfl hC'.hw hC'.lw rfl ?_ (ldOk rfl (Nat.beq_refl wb))
     refine za1 rfl (za1 rfl (zbg rfl rfl ?_))
     refine zer [[.int .i64 (i : Nat)]] rfl rfl (zdj (ys := []) zav rfl (fun x hx => by obtain rfl := List.mem_singleton.1 hx; rfl)) (fun h => Nat.noConfusion h) rfl (by decide) ((zak hlt').trans hlb') (by rw [hll]; omega) (by show vs.length + 1 ≤ _; omega) (by show c < vs.length + 1; omega) ?_ (zss rfl (Nat.beq_refl lb))
     refine za1 rfl (zac (op := .add) rfl rfl rfl (za1 rfl (za1 rfl (zac rfl rfl (zhg _ _) (za3 (zal ⟨rfl, fun rd => ?_⟩))))))
     rw [w1, zji]
     have hvm : vs.map (AV.int .i64) ++ [[AV.int .i64 (i : Nat)]].flatten = (vs ++ [(i : Int)]).map (AV.int .i64) := by rw [List.map_append]; rfl
     rw [hvm]
     have l1 := hC'.ln
     have l2 := hC'.lb
     have l3 := hC'.lw
     have hKn : Keep (fun _ => False) H' ⟨(H'.next + 1, H'.clk + 1, .cells ((vs ++ [(i : Int)]).map (AV.int .i64))) :: (H'.next, H'.clk, .cells [.int .i64 (i : Nat)]) :: H'.heap, H'.next + 1 + 1, H'.clk + 1 + 1⟩ := zhy (by omega)
     have hft := zoz (ih (s.length - (i + 1)) (by omega)) (vs ++ [(i : Int)]) (i + 1) (h ||| x) b' (H'.next + 1) (H'.clk + 1) ⟨(H'.next + 1, H'.clk + 1, .cells ((vs ++ [(i : Int)]).map (AV.int .i64))) :: (H'.next, H'.clk, .cells [.int .i64 (i : Nat)]) :: H'.heap, H'.next + 1 + 1, H'.clk + 1 + 1⟩ (by omega) (by omega) hb3 (by omega) (hC'.keep hKn (fun h => h) (fun h => h) fun h => h)
      zav (Nat.lt_succ_self _) (by omega) (by omega) (by omega)
     refine AnyF.one 10 (by decide) (zml _ rfl rfl rfl rfl (zho (by rw [hlv] at hft; exact hft)) (fun _ _ _ _ h => absurd h List.not_mem_nil) fun v H1 hF => ?_)
     obtain ⟨hk1, hC1⟩ := hF
     have hk2 : Keep (fun j => j = nb ∨ j = bb) H' H1 := ⟨Nat.le_trans hKn.next hk1.next, Nat.le_trans hKn.clk hk1.clk, fun j hj hj2 => (hk1.look j (fun h => h.elim (fun e => hj (.inl e)) fun h => h.elim (fun e => hj (.inr e)) fun e => by omega) (by show j < H'.next + 1 + 1; omega)).trans (hKn.look j (fun h => h) hj2)⟩
     have hlb3 : Am.look lb H1.heap = some (sl, .cells (zd9 vs X')) := (hk2.look lb (fun h => h.elim h9 h10) hlt').trans hlb'
     have hk2 : Keep (fun j => j = nb ∨ j = bb ∨ j = lb) H' H1 := Keep.mono hk2 fun j h => h.elim .inl fun e => .inr (.inl e)
     refine AnyF.fin (by decide) (Um.ok ?_)
     repeat (first | refine za0 rfl ?_ | refine za3 ?_ | refine za4 ?_ | refine zbj ?_ | refine za1 rfl ?_ | refine zac (op := .add) rfl rfl rfl ?_)
     rw [w1]
     exact zb4 (show s.length - (i + 1) < s.length - i by omega) (zaa (.cons rfl (.cons rfl (.cons rfl (.cons rfl (.cons rfl (.cons rfl (.cons rfl .nil)))))))) ⟨i + 1, _, H1, X', rfl, hlt, by omega, by omega, hfold, hsh, by rw [hcn]; omega, hX, hXl, hC1, hlb3, hKp.trans hk2, rfl⟩
   ·repeat (first | refine za0 rfl ?_ | refine za3 ?_ | refine za4 ?_ | refine zbj ?_ | refine zad ?_ | refine zbt rfl ?_ | refine za1 rfl ?_ | refine zan rfl rfl ?_ | refine zac (op := .add) rfl rfl rfl ?_)
    rw [w1]
    exact ⟨skip (by rw [hx0, hx1]; rfl) _ rfl rfl rfl rfl rfl rfl rfl⟩
  ·repeat (first | refine za0 rfl ?_ | refine za3 ?_ | refine za4 ?_ | refine zbj ?_ | refine zad ?_ | refine zbt rfl ?_ | refine zh8 rfl rfl ?_ | refine za1 rfl ?_ | refine zam rfl rfl ?_ | refine zac (op := .add) rfl rfl rfl ?_)
   rw [w1]
   exact ⟨skip (by rw [hx0]; rfl) _ rfl rfl rfl rfl rfl rfl rfl⟩
 ·have hi2 : i = s.length := by
   have : ¬ ((i : Nat) : Int) < ((cUs s).length : Nat) := of_decide_eq_false h30
   omega
  rw [hi2, List.drop_length] at hfold
  repeat (first | refine za3 ?_ | refine za4 ?_ | refine zbt rfl ?_ | refine zbc ?_ | refine zaf ?_)
  refine ze6 ?_
  repeat (first | refine zbb ?_)
  refine zal ⟨.inl rfl, _, rfl, hKp, ?_, X', hXl, hlb'⟩
  rw [hfold]
  exact hC'
theorem zrw {n : Int} {s : List (BitVec 64)} {w0 : World} {N0 nb sn bb sb wb sw : Nat} (hc0 : ze8 n s = 0) (hnb : nb ≠ bb) (hnw : nb ≠ wb) (hbw : bb ≠ wb) (r : Nat) : zgw n s w0 N0 nb sn bb sb wb sw r := by
 induction r using Nat.strongRecOn with
 | _ r ih => exact zp1 hc0 hnb hnw hbw ih
end Go.Proofs.Ytknomkcdpcnmaaa
