/-
  WHAT BETWEEN COMPARES: the plain law.
-/
import Derived.Test.YtknomkcdpcnmaaaKP5
import Derived.Test.YtknomkcdpcnmaaaKP7
import Derived.Test.YtknomkcdpcnmaaaKP8
import Derived.Test.YtknomkcdpcnmaaaKV5
namespace Go.Proofs.Ytknomkcdpcnmaaa
open Go Go.Am
theorem zs9 {n : Int} {s : List (BitVec 64)} (hc : zfa n s = 0) {c : List Int} (hm : ∀ z ∈ c, 0 ≤ z ∧ z < s.length) (hu : uni s c = zc5 n) : (zgn s s.length).1 = zc5 n := by
 obtain ⟨_, _, _, hb⟩ := ze5 hc
 have h1 := fun b => zh7 s b s.length (Nat.le_refl _)
 refine zfj fun b => ⟨fun h => ?_, fun ha => ?_⟩
 ·obtain ⟨j, hj, hjb⟩ := (h1 b).1 h
  rw [zgj hj] at hjb
  exact zu2 (hb _ (List.getElem_mem hj)) hjb
 ·rw [← hu, zkc, List.any_eq_true] at ha
  obtain ⟨z, hz, hzb⟩ := ha
  have := hm z hz
  exact (h1 b).2 ⟨z.toNat, by omega, hzb⟩
theorem uni_mem {s : List (BitVec 64)} {c d : List Int} (h : ∀ z, z ∈ c ↔ z ∈ d) : uni s c = uni s d := by
 refine zfj fun b => ?_
 rw [zkc, zkc, List.any_eq_true, List.any_eq_true]
 exact ⟨fun ⟨z, hz, hb⟩ => ⟨z, (h z).1 hz, hb⟩, fun ⟨z, hz, hb⟩ => ⟨z, (h z).2 hz, hb⟩⟩
theorem or_step {U x l A : BitVec 64} (h : U ||| l = A) (hx : x &&& ~~~ A = 0#64) : (U ||| x) ||| (l &&& ~~~ x) = A := by
 apply BitVec.eq_of_getLsbD_eq
 intro i hi
 have a := congrArg (fun z => z.getLsbD i) h
 have b := congrArg (fun z => z.getLsbD i) hx
 simp only [BitVec.getLsbD_and, BitVec.getLsbD_or, BitVec.getLsbD_not, BitVec.getLsbD_zero, hi, decide_true, Bool.true_and] at a b ⊢
 revert a b
 cases x.getLsbD i <;> cases A.getLsbD i <;> cases l.getLsbD i <;> cases U.getLsbD i <;> simp
theorem zp4 {n : Int} {s : List (BitVec 64)} (hb : ∀ i < s.length, s.getD i 0 &&& ~~~ zc5 n = 0#64) : ∀ (f : Nat) (left : BitVec 64) (out r : List Int), zie s f left out = some r → uni s out ||| left = zc5 n → uni s r = zc5 n
 | 0, _, _, _, h, _ => by cases h
 | f + 1, left, out, r, h, hi => by
  rw [zie] at h
  split at h
  ·rename_i h0
   obtain rfl := Option.some.inj h
   rw [h0, BitVec.or_zero] at hi
   exact hi
  split at h
  ·cases h
  rename_i hb2
  obtain ⟨h1, _⟩ := zfy s left s.length hb2
  generalize zdh s left s.length = bt at *
  refine zp4 hb f _ _ r h ?_
  rw [zmy, Int.toNat_natCast]
  exact or_step hi (hb _ h1)
theorem zlp (s : List (BitVec 64)) (left : BitVec 64) : ∀ i j : Nat, j < i → szB (s.getD j 0 &&& left) ≤ (zdh s left i).2
 | 0, _, h => absurd h (Nat.not_lt_zero _)
 | i + 1, j, h => by
  rw [zdh]
  split
  ·rename_i hg
   by_cases e : j = i
   ·subst e
    exact Nat.le_refl _
   ·have := zlp s left i j (by omega)
    show _ ≤ szB (s.getD i 0 &&& left)
    omega
  ·rename_i hg
   by_cases e : j = i
   ·subst e
    omega
   ·exact zlp s left i j (by omega)
theorem zr4 {n : Int} {s : List (BitVec 64)} : ∀ (f : Nat) (left : BitVec 64) (out : List Int), zie s f left out = none → szB left < f → left &&& ~~~ zc5 n = 0#64 → (zgn s s.length).1 ≠ zc5 n
 | 0, _, _, _, h, _ => absurd h (Nat.not_lt_zero _)
 | f + 1, left, out, h, hf, hl => by
  rw [zie] at h
  split at h
  ·cases h
  rename_i h0
  split at h
  ·rename_i hb
   intro hA
   obtain ⟨b, hbb⟩ := zu7.1 (bne_iff_ne.2 h0)
   have hlt : b < 64 := BitVec.lt_of_getLsbD hbb
   have hAb : (zc5 n).getLsbD b = true := by
    cases ha : (zc5 n).getLsbD b with
    | true => rfl
    | false =>
     have := congrArg (fun z => z.getLsbD b) hl
     simp only [BitVec.getLsbD_and, BitVec.getLsbD_not, BitVec.getLsbD_zero, hlt, decide_true, Bool.true_and, hbb, ha, Bool.not_false] at this
     cases this
   rw [← hA, zh7 s b s.length (Nat.le_refl _)] at hAb
   obtain ⟨j, hj, hjb⟩ := hAb
   have h1 := zlp s left s.length j hj
   rw [hb] at h1
   have h2 : s.getD j 0 &&& left = 0#64 := zgr.1 (by omega)
   have h3 := congrArg (fun z => z.getLsbD b) h2
   simp only [BitVec.getLsbD_and, BitVec.getLsbD_zero, hjb, hbb] at h3
   cases h3
  rename_i hb
  obtain ⟨_, h2⟩ := zfy s left s.length hb
  generalize zdh s left s.length = bt at *
  have h7 := zmx left (s.getD bt.1 0)
  rw [BitVec.and_comm left (s.getD bt.1 0), ← h2] at h7
  exact zr4 f _ _ h (by omega) (bitwise5 hl)
theorem asc_of {N : Nat} : ∀ {d : List Int} {f : Nat}, d.Pairwise (· < ·) → (∀ z ∈ d, (f : Int) ≤ z ∧ z < N) → d ∈ asc N d.length f
 | [], f, _, _ => by
  show [] ∈ asc N 0 f
  rw [asc]
  exact List.mem_singleton.2 rfl
 | k :: d, f, hp, hm => by
  obtain ⟨h1, h2⟩ := List.pairwise_cons.1 hp
  have hk := hm k (List.mem_cons_self ..)
  show _ ∈ asc N (d.length + 1) f
  rw [asc]
  refine List.mem_flatMap.2 ⟨k.toNat, by rw [List.mem_range'_1]; omega, List.mem_map.2 ⟨d, asc_of h2 fun z hz => ?_, ?_⟩⟩
  ·have := h1 z hz
   have := (hm z (List.mem_cons_of_mem _ hz)).2
   omega
  ·rw [show ((k.toNat : Nat) : Int) = k by omega]
theorem up_pw : ∀ {c : List Int}, Up c → c.Pairwise (· < ·)
 | [], _ => List.Pairwise.nil
 | _ :: _, ⟨_, _, h2, h3⟩ => List.pairwise_cons.2 ⟨h2, up_pw h3⟩
theorem ascM_add (N k a : Nat) : ∀ b : Nat, zok N k (a + b) = zok N k a ++ zok N (k + a) b := by
 intro b
 unfold zok
 rw [← List.flatMap_append, List.range'_append_1]
theorem zus {n : Int} {s : List (BitVec 64)} {c d : List Int} (h : zqz n s = some c) (hp : d.Pairwise (· < ·)) (hm : ∀ z ∈ d, 0 ≤ z ∧ z < s.length) (hd : uni s d = zc5 n) : c.length ≤ d.length := by
 refine Nat.le_of_not_lt fun hlt => ?_
 have hcl := (zlx h).1
 unfold zqz at h
 obtain ⟨e, he⟩ : ∃ e, s.length + 1 = c.length + e := ⟨s.length + 1 - c.length, by omega⟩
 rw [he, ascM_add, List.find?_append] at h
 have hmem : d ∈ zok s.length 0 c.length := by
  unfold zok
  refine List.mem_flatMap.2 ⟨d.length, by rw [List.mem_range'_1]; omega, asc_of hp fun z hz => ?_⟩
  have := hm z hz
  omega
 have hs : ((zok s.length 0 c.length).find? (zki n s)).isSome = true := by
  rw [List.find?_isSome]
  exact ⟨d, hmem, by unfold zki; rw [hd]; exact beq_self_eq_true _⟩
 obtain ⟨x, hx⟩ := Option.isSome_iff_exists.1 hs
 rw [hx] at h
 obtain rfl := Option.some.inj h
 have h2 := List.mem_of_find?_eq_some hx
 unfold zok at h2
 obtain ⟨j, hj, hm2⟩ := List.mem_flatMap.1 h2
 rw [List.mem_range'_1] at hj
 have hm2 : x.length = j ∧ ∀ z ∈ x, ((0 : Nat) : Int) ≤ z ∧ z < s.length := zhh hm2
 omega
theorem few_up {n : Int} {s : List (BitVec 64)} (hs : s.length ≤ 64) {c : List Int} (h : zqz n s = some c) : Up c := by
 have h2 := List.mem_of_find?_eq_some h
 unfold zok at h2
 obtain ⟨j, hj, hm2⟩ := List.mem_flatMap.1 h2
 exact zs1 hs hm2
theorem bit_ok : (List.range 13).all (fun m => (List.range 64).all fun i => (zc5 (m : Nat)).getLsbD i == decide (i < m)) = true := by decide +kernel
theorem all_bit {m i : Nat} (h : m ≤ 12) (hi : i < m) : (zc5 (m : Nat)).getLsbD i = true := by
 have h1 := List.all_eq_true.1 bit_ok m (List.mem_range.2 (by omega))
 have h2 := List.all_eq_true.1 h1 i (List.mem_range.2 (by omega))
 rw [beq_iff_eq] at h2
 rw [h2, decide_eq_true hi]
theorem sz_one : (List.range 64).all (fun k => szN 64 (1#64 <<< k).toNat == 1) = true := by decide +kernel
theorem sz_shl {k : Nat} (h : k < 64) : szB (1#64 <<< k) = 1 := by
 have := List.all_eq_true.1 sz_one k (List.mem_range.2 h)
 unfold szB
 simpa using this
theorem zvu (k : Int) (c : List Int) : zh4 (k :: c) = (1#64 <<< k.toNat) ||| zh4 c := by
 have key : ∀ (c : List Int) (a : BitVec 64), c.foldl (fun a k => a ||| (1#64 <<< k.toNat)) a = a ||| zh4 c := by
  intro c
  induction c with
  | nil =>
   intro a
   show a = a ||| 0#64
   rw [BitVec.or_zero]
  | cons z c ih =>
   intro a
   rw [List.foldl_cons, ih]
   unfold zh4
   rw [List.foldl_cons, ih (0 ||| _), BitVec.or_assoc]
   congr 1
   show _ = (0#64 ||| _) ||| _
   rw [BitVec.zero_or]
   rfl
 unfold zh4
 rw [List.foldl_cons, key]
 show (0#64 ||| _) ||| _ = _
 rw [BitVec.zero_or]
 rfl
theorem zwz : ∀ {c : List Int}, Up c → szB (zh4 c) = c.length
 | [], _ => zgr.2 rfl
 | k :: c, ⟨h0, h1, h2, h3⟩ => by
  rw [zvu, sz_disj.2, sz_shl (by omega), zwz h3, List.length_cons, Nat.add_comm]
  refine zfj fun b => ?_
  simp only [BitVec.getLsbD_and, BitVec.getLsbD_zero, Bool.and_eq_true, Bool.false_eq_true, iff_false, not_and]
  intro hb hc
  have hb64 : b < 64 := BitVec.lt_of_getLsbD hb
  rw [BitVec.getLsbD_shiftLeft, BitVec.getLsbD_one] at hb
  simp only [Bool.and_eq_true, decide_eq_true_eq, Bool.not_eq_true', decide_eq_false_iff_not] at hb
  rw [zmg hb64, List.any_eq_true] at hc
  obtain ⟨z, hz, hzb⟩ := hc
  have := h2 z hz
  have hzb : z.toNat = b := by simpa using hzb
  omega
theorem sz_uni (M : BitVec 64) (s : List (BitVec 64)) : ∀ (c : List Int) (a : BitVec 64), (∀ z ∈ c, szB (M &&& s.getD z.toNat 0) ≤ 1) → szB (M &&& c.foldl (fun a i => a ||| s.getD i.toNat 0) a) ≤ szB (M &&& a) + c.length
 | [], a, _ => Nat.le_refl _
 | k :: c, a, h => by
  have h1 := sz_uni M s c (a ||| s.getD k.toNat 0) fun z hz => h z (List.mem_cons_of_mem _ hz)
  have h2 := h k (List.mem_cons_self ..)
  have h3 := sz_le (M &&& a) (M &&& s.getD k.toNat 0)
  have h4 : M &&& (a ||| s.getD k.toNat 0) = (M &&& a) ||| (M &&& s.getD k.toNat 0) := by
   refine zfj fun b => ?_
   simp only [BitVec.getLsbD_and, BitVec.getLsbD_or]
   cases M.getLsbD b <;> simp
  rw [h4] at h1
  rw [List.foldl_cons, List.length_cons]
  omega
theorem bou_le {m : Nat} (hm : m ≤ 12) {s : List (BitVec 64)} {b c : List Int} (hU : Up b) (hb : ∀ z ∈ b, 0 ≤ z ∧ z < m) (hL : zfn s b = true) (hc : ∀ z ∈ c, 0 ≤ z ∧ z < s.length) (hu : uni s c = zc5 (m : Nat)) : b.length ≤ c.length := by
 have h1 := sz_uni (zh4 b) s c 0 fun z hz => by
  have hz2 := hc z hz
  unfold zfn at hL
  have := List.all_eq_true.1 hL (s.getD z.toNat 0) (by rw [zgj (show z.toNat < s.length by omega)]; exact List.getElem_mem _)
  rw [decide_eq_true_eq, BitVec.and_comm] at this
  exact this
 rw [show c.foldl (fun a i => a ||| s.getD i.toNat 0) 0 = zc5 (m : Nat) from hu] at h1
 have h2 : zh4 b &&& zc5 (m : Nat) = zh4 b := by
  refine zfj fun i => ?_
  rw [BitVec.getLsbD_and, Bool.and_eq_true]
  refine ⟨fun h => h.1, fun h => ⟨h, ?_⟩⟩
  have hi : i < 64 := BitVec.lt_of_getLsbD h
  rw [zmg hi, List.any_eq_true] at h
  obtain ⟨z, hz, hzb⟩ := h
  have := hb z hz
  have hzb : z.toNat = i := by simpa using hzb
  exact all_bit hm (by omega)
 rw [h2, zwz hU, show zh4 b &&& 0 = 0#64 from BitVec.and_zero, zgr.2 rfl] at h1
 omega
end Go.Proofs.Ytknomkcdpcnmaaa
namespace Go.Proofs.Ytknomkcdpcnmaaa
open Go Go.Am
theorem zw7 {n : Int} : ∀ {l : List Int} {p : Int}, l.Pairwise (· < ·) → (∀ z ∈ l, 0 ≤ z ∧ z < n ∧ p < z) → zt8 n p l = 0
 | [], _, _, _ => rfl
 | k :: l, p, hp, hm => by
  obtain ⟨h1, h2⟩ := List.pairwise_cons.1 hp
  have hk := hm k (List.mem_cons_self ..)
  rw [zt8, if_neg (by omega), if_neg (by omega), if_neg (by omega)]
  exact zw7 h2 fun z hz => ⟨(hm z (List.mem_cons_of_mem _ hz)).1, (hm z (List.mem_cons_of_mem _ hz)).2.1, h1 z hz⟩
theorem spa_few {n : Int} {s : List (BitVec 64)} (hc : zfa n s = 0) {c : List Int} (h : zqz n s = some c) : spaV n s c = .tup [vsI [], .int .i64 0] := by
 obtain ⟨_, _, s1, _⟩ := ze5 hc
 obtain ⟨_, hcov, hm⟩ := zlx h
 have hp := up_pw (few_up s1 h)
 have hg : zom n s c s.length = 0 := by
  unfold zom
  rw [if_pos hc]
  exact zw7 hp fun z hz => by have := hm z hz; omega
 unfold spaV
 rw [if_pos hg, if_pos hcov]
 have : ztb n s c c.length = [] := by
  unfold ztb
  rw [List.map_eq_nil_iff, List.filter_eq_nil_iff]
  intro i hi hcv
  have hi := List.mem_range.1 hi
  unfold zki at hcv
  have h1 := zus h (hp.sublist (List.eraseIdx_sublist ..)) (fun z hz => hm z (List.mem_of_mem_eraseIdx hz)) (eq_of_beq hcv)
  rw [List.length_eraseIdx_of_lt hi] at h1
  omega
 rw [this]
theorem zu9 {N : Nat} {s : List (BitVec 64)} {b : List Int} : ∀ m : Nat, boR N s m = some b → ∃ j, b ∈ asc N j 0 ∧ zfn s b = true
 | 0, h => by cases h
 | m + 1, h => by
  rw [boR] at h
  cases hf : (asc N (m + 1) 0).find? (zfn s) with
  | none =>
   rw [hf] at h
   exact zu9 m h
  | some c =>
   rw [hf] at h
   obtain rfl := Option.some.inj h
   exact ⟨m + 1, List.mem_of_find?_eq_some hf, List.find?_some hf⟩
theorem znb {m : Nat} (hm : m ≤ 64) (s : List (BitVec 64)) : Up (bouL m s) ∧ (∀ z ∈ bouL m s, 0 ≤ z ∧ z < m) ∧ zfn s (bouL m s) = true := by
 rw [bou_list m hm s]
 cases hb : boR m s m with
 | none =>
  show Up [] ∧ (∀ z ∈ ([] : List Int), 0 ≤ z ∧ z < (m : Int)) ∧ zfn s [] = true
  refine ⟨trivial, fun z hz => (by cases hz), ?_⟩
  unfold zfn
  rw [List.all_eq_true]
  intro x _
  show decide (szB (x &&& 0#64) ≤ 1) = true
  rw [BitVec.and_zero, zgr.2 rfl]
  rfl
 | some b =>
  obtain ⟨j, h1, h2⟩ := zu9 m hb
  have hm2 : b.length = j ∧ ∀ z ∈ b, ((0 : Nat) : Int) ≤ z ∧ z < m := zhh h1
  exact ⟨zs1 hm h1, fun z hz => by have := hm2.2 z hz; omega, h2⟩
theorem apa_bou {m : Nat} {s : List (BitVec 64)} (hc : zfa (m : Nat) s = 0) : apaV (m : Nat) s (bouL m s) = .tup [.bool true, .int .i64 0] := by
 obtain ⟨_, n1, _⟩ := ze5 hc
 obtain ⟨h1, h2, h3⟩ := znb (m := m) (by omega) s
 unfold apaV zom
 rw [if_pos hc, zw7 (up_pw h1) fun z hz => by have := h2 z hz; omega, if_pos rfl, apT_pair, ← znv s _ h1, h3]
theorem none_gre {n : Int} {s : List (BitVec 64)} (hc : zfa n s = 0) (h : zqz n s = none) : (zgn s s.length).1 ≠ zc5 n ∧ zie s (szB (zc5 n) + 1) (zc5 n) [] = none := by
 have h1 : (zgn s s.length).1 ≠ zc5 n := fun e => by
  have := (zto hc).1 e
  rw [h] at this
  cases this
 refine ⟨h1, ?_⟩
 obtain ⟨_, _, _, hbad⟩ := ze5 hc
 cases hR : zie s (szB (zc5 n) + 1) (zc5 n) [] with
 | none => rfl
 | some out =>
  obtain ⟨_, h2⟩ := zif s _ _ _ _ hR List.nodup_nil (fun z hz => by cases hz)
  refine absurd (zs9 hc h2 (zp4 (fun i hi => ?_) _ _ _ _ hR (BitVec.zero_or ..))) h1
  have := hbad (s.getD i 0) (by rw [zgj hi]; exact List.getElem_mem hi)
  unfold zql at this
  simpa using this
theorem some_gre {n : Int} {s : List (BitVec 64)} (hc : zfa n s = 0) {c : List Int} (h : zqz n s = some c) : ∃ out, zie s (szB (zc5 n) + 1) (zc5 n) [] = some out ∧ uni s (resL out s.length) = zc5 n ∧ c.length ≤ (resL out s.length).length := by
 obtain ⟨_, _, _, hbad⟩ := ze5 hc
 cases hR : zie s (szB (zc5 n) + 1) (zc5 n) [] with
 | none => exact absurd ((zto hc).2 (by rw [h]; rfl)) (zr4 _ _ _ hR (Nat.lt_succ_self _) (BitVec.and_not_self _))
 | some out =>
  obtain ⟨_, h2⟩ := zif s _ _ _ _ hR List.nodup_nil (fun z hz => by cases hz)
  have hu : uni s out = zc5 n := zp4 (fun i hi => by
   have := hbad (s.getD i 0) (by rw [zgj hi]; exact List.getElem_mem hi)
   unfold zql at this
   simpa using this) _ _ _ _ hR (BitVec.zero_or ..)
  have hu2 : uni s (resL out s.length) = zc5 n := by
   rw [← hu]
   refine uni_mem fun z => ?_
   rw [zin]
   exact ⟨fun h => h.2.2, fun h => ⟨(h2 z h).1, (h2 z h).2, h⟩⟩
  exact ⟨out, rfl, hu2, zus h (zmp _ _) (fun z hz => by have := zin.1 hz; omega) hu2⟩
end Go.Proofs.Ytknomkcdpcnmaaa
