/-
  EXACT COVERS: setcover.Exact.
-/
import Derived.Test.YtknomkcdpcnmaaaEVF
namespace Go.Proofs.Ytknomkcdpcnmaaa
open Go Go.Am
theorem beh_nil (L : List (List Int)) : beh [] L = L := by unfold beh; simp
theorem zoy {n : Int} {s : List (BitVec 64)} {w0 : World} {N0 nb sn bb sb wb sw : Nat} (hS : zgw n s w0 N0 nb sn bb sb wb sw s.length) (H : HS) (h4 : (zd6 (zce n) s 0 0).length ≤ 1000000) (h6 : CE n s ([], 0) nb sn bb sb wb sw H) :
  FT Try.prog w0 N0 42 [.nils, .int .i64 0, cU 0, .vptr [.int .i64 n, .vs (cUs s)], .mptr nb sn 0, .mptr bb sb 0, .mptr wb sw 0] H fun _ H' => Keep (fun i => i = nb ∨ i = bb) H H' ∧ CE n s ((zd6 (zce n) s 0 0).foldl zbu ([], 0)) nb sn bb sb wb sw H' := by
 refine zcs env0_ok fn42 [(0, .nils), (1, .int .i64 0), (2, cU 0), (3, .vptr [.int .i64 n, .vs (cUs s)]), (4, .mptr nb sn 0), (5, .mptr bb sb 0), (6, .mptr wb sw 0)] (by show 7 ≤ 75; decide) rfl ?_
 refine zr4 0 1 rfl ?_
 refine zku 0 rfl zav rfl fun c hc => ?_
 refine zhr (zaa (l' := tE n s [] 0 c H.next H.clk 0 nb sn bb sb wb sw) (.cons rfl (.cons rfl (.cons rfl (.cons rfl (.cons rfl (.cons rfl (.cons rfl .nil)))))))) ?_
 rw [zgp]
 have l1 := h6.ln
 have l2 := h6.lb
 have l3 := h6.lw
 have hKn : Keep (fun _ => False) H ⟨(H.next, H.clk, .cells (zd9 [] (List.replicate (c - 0) .top))) :: H.heap, H.next + 1, H.clk + 1⟩ := Keep.new _ _ _
 have hz := hS [] 0 c 0 ([], 0) (List.replicate (c - 0) .top) H.next H.clk ⟨(H.next, H.clk, .cells (zd9 [] (List.replicate (c - 0) .top))) :: H.heap, H.next + 1, H.clk + 1⟩ (Nat.zero_add _) (Nat.le_refl _) (Nat.zero_le _) (by show 0 + _ ≤ _; omega) (by rw [List.length_replicate]; simp) (h6.keep hKn (fun h => h) (fun h => h) fun h => h) zav (Nat.lt_succ_self _) (by omega) (by omega) (by omega)
 rw [beh_nil] at hz
 refine zkv hz fun e S' ⟨he, v, hv, hk, hC, _⟩ => ⟨he, v, hv, ⟨Nat.le_trans (Nat.le_succ _) hk.next, Nat.le_trans (Nat.le_succ _) hk.clk, fun i hi hi2 => (hk.look i (fun h => h.elim (fun e => hi (.inl e)) fun h => h.elim (fun e => hi (.inr e)) fun e => by omega) (by show i < H.next + 1; omega)).trans (zak hi2)⟩, hC⟩
theorem zqf {A : BitVec 64} {s : List (BitVec 64)} (hs : s.length ≤ 16) (h : BitVec 64) : (zd6 A s 0 h).length ≤ 1000000 := by
 unfold zd6
 split
 ·simp
 ·have h1 := zol A (s.drop 0) 0 h
  have h2 : 2 ^ (s.drop 0).length ≤ 2 ^ 16 := Nat.pow_le_pow_right (by decide) (by rw [List.drop_zero]; exact hs)
  omega
def ze7 (n : Int) (s : List (BitVec 64)) : List (List Int) := zd6 (zce n) s 0 0
def exaV (n : Int) (s : List (BitVec 64)) : AV := if zn9 n s = 0 then (if ze7 n s = [] then .tup [.vs [], .int .i64 0, .int .i64 6] else .tup [vsI ((ze7 n s).foldl zbu ([], 0)).1, .int .i64 ((ze7 n s).length : Nat), .int .i64 0]) else .tup [.vs [], .int .i64 0, .int .i64 (zn9 n s)]
set_option maxHeartbeats 2000000 in
theorem zim (n : Int) (s : List (BitVec 64)) : PF Try.prog 13 [cF n s] (exaV n s) := by
 have pL := zj5 n s
 refine zbd env0_ok fn13 [(0, cF n s)] (by show 1 ≤ 21; decide) rfl fun w0 N0 => ?_
 unfold ic13 exaV
 refine za6 (za0 rfl (zd7 (cs := [.int .i64 n, .vs (cUs s)]) rfl rfl (za1 rfl (za1 rfl (za1 rfl (za3 (za4 ?_)))))))
 refine zd0 [] [(0, 0, [.int .i64 n, .vs (cUs s)])] [(1, .vptr [.int .i64 n, .vs (cUs s)])] rfl (.cons rfl rfl .nil) .nil (.cons rfl (.fptr rfl rfl) .nil) ?_
 repeat (first | refine za6 ?_ | refine za0 rfl ?_ | refine zb2 rfl rfl rfl rfl ?_)
 refine zay rfl rfl pL (fun h => Bool.noConfusion (show false = true from h)) ?_
 by_cases hl : zn9 n s = 0
 ·obtain ⟨hc, h16⟩ := zuq hl
  rw [if_pos hl, hl]
  have hS := zrw (w0 := w0) (N0 := N0) (nb := 1) (sn := 2) (bb := 0) (sb := 1) (wb := 2) (sw := 3) hc (by decide) (by decide) (by decide) s.length
  repeat (first | refine za6 ?_ | refine za0 rfl ?_ | refine za3 ?_ | refine za4 ?_ | refine zad ?_ | refine zbt rfl ?_ | refine za1 rfl ?_ | refine zah rfl rfl ?_ | refine zb9 rfl rfl rfl rfl rfl rfl rfl ?_ | refine zc2 ?_ | refine zdy rfl rfl ?_ | refine zb5 rfl rfl rfl ?_)
  refine o_ct (fv := .fn 42 [] [.vptr [.int .i64 n, .vs (cUs s)], .mptr 1 2 0, .mptr 0 1 0, .mptr 2 3 0]) _ rfl rfl (zho (zoy hS _ (zqf h16 0) ?_)) (fun _ _ _ _ h => absurd h List.not_mem_nil) fun v H1 hF => ?_
  ·exact ⟨rfl, rfl, rfl, (show 1 < 3 by decide), (show 0 < 3 by decide), (show 2 < 3 by decide)⟩
  obtain ⟨hk, hC⟩ := hF
  have hcnt := zis (zd6 (zce n) s 0 0) ([], 0)
  rw [show zd6 (zce n) s 0 0 = ze7 n s from rfl] at hC hcnt
  have hcnt : ((ze7 n s).foldl zbu ([], 0)).2 = (ze7 n s).length := by rw [hcnt]; exact Nat.zero_add _
  have hn := hC.hn
  rw [hcnt] at hn
  repeat (first | refine za6 ?_ | refine za0 rfl ?_ | refine za3 ?_ | refine za4 ?_)
  refine zbw rfl hn hC.ln rfl ?_
  by_cases he : ze7 n s = []
  ·rw [if_pos he]
   refine zbr rfl rfl (by rw [he]; rfl) ?_
   repeat (first | refine za6 ?_ | refine za0 rfl ?_ | refine za3 ?_ | refine za4 ?_ | refine zc1 rfl ?_ | refine zas ?_ | refine za8 ?_ | refine za1 rfl ?_)
   exact zal ⟨.inr rfl, _, rfl, rfl⟩
  ·rw [if_neg he]
   have hne : (ze7 n s).length ≠ 0 := fun e => he (List.length_eq_zero_iff.1 e)
   have hb := hC.hb
   rw [zh0 (by rw [hcnt]; exact hne)] at hb
   refine zb5 rfl rfl (by show some (AV.bool (((ze7 n s).length : Int) == 0)) = _; rw [show (((ze7 n s).length : Int) == 0) = false by rw [beq_eq_false_iff_ne]; omega]) ?_
   repeat (first | refine za6 ?_ | refine za3 ?_ | refine za4 ?_ | refine zad ?_ | refine zbt rfl ?_ | refine zcm env0_ok rfl rfl rfl ?_)
   refine zbw rfl hb hC.lb rfl ?_
   refine zbw rfl hn hC.ln rfl ?_
   repeat (first | refine za3 ?_ | refine za4 ?_ | refine zas ?_ | refine za1 rfl ?_)
   exact zal ⟨.inr rfl, _, rfl, rfl⟩
 ·rw [if_neg hl]
  repeat (first | refine za6 ?_ | refine za0 rfl ?_ | refine za3 ?_ | refine za4 ?_ | refine za1 rfl ?_)
  refine zax rfl rfl rfl (fun h => ?_) fun h => absurd (by simpa using h) hl
  repeat (first | refine za6 ?_ | refine za0 rfl ?_ | refine za3 ?_ | refine za4 ?_ | refine zc1 rfl ?_ | refine zas ?_ | refine za8 ?_ | refine za1 rfl ?_)
  exact zal ⟨.inr rfl, _, rfl, rfl⟩
end Go.Proofs.Ytknomkcdpcnmaaa
