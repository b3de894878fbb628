/-
  THE FIRST STROKE OF A HOMING: homing.Levels, homing.first; the reference's Levels.; THE FIRST HOMING: homing.Find, and the reference's; the law of homings.; WHETHER STROKES LEAD HOME: homing.Check, and the reference's.; STROKES AND THE OPPOSITE ONES: the law's walk.; LEVELS THAT PROVE THEMSELVES: homing.proves, homing.Verify.; LEVELS ARE A LEVELLING, AND HOMINGS ARE AS LONG AS THEY SAY: the plain 
-/
import Derived.Test.YtoiblgbaeglgoaaKX8
namespace Go.Proofs.Ytoiblgbaeglgoaa
open Go Go.Am
def skE (n k i : Nat) : Sk := ⟨(i : Nat), !((zby n k).getD i false)⟩
def down (n : Nat) (D : List Int) (k i : Nat) : Bool := D.getD (nxt n k i) 0 == D.getD k 0 - 1
theorem zkr {D : List Int} {k : Nat} (hk : k < D.length) : (D.map fun z => ([.int .i64 z] : List AV))[((k : Nat) : Int).toNat]? = some [.int .i64 (D.getD k 0)] := by
 rw [y0y, y0h, y08, y06 hk]
 rfl
-- pneumatic/homing.first$1
def ic143 : IC := .seq (.region [oM 3 (.box (.t 0)),
  oM 4 (.mov (.c (.bool false)))] none)
 (.seq (.region [oN 5 1,
  oN 6 2,
  oF 7 0 3,
  oN 8 7,
  oM 9 (.bin .shl (.c (.int .i64 1)) (.t 8)),
  oM 10 (.bin .xor (.t 6) (.t 9)),
  oM 11 (.idxs 1 (.t 5) (.t 10)),
  oN 12 11,
  oN 13 1,
  oN 14 2,
  oM 15 (.idxs 1 (.t 13) (.t 14)),
  oN 16 15,
  oM 17 (.bin .sub (.t 16) (.c (.int .i64 1))),
  oM 18 (.bin .eql (.t 12) (.t 17)),
  oT 4 18] (some [[], [], [], [2], [3], [1, 4], [0, 5], [6], [], [], [8, 9], [10], [11], [7, 12], [13, 0, 1, 2, 3, 4, 5, 6, 7, 8, 9, 10, 11, 12, 13]]))
 (.ret))
theorem fn143 : env0.fn 143 = some ⟨19, ic143, [.t 4]⟩ := by kernel_rfl
theorem down143 {n k i : Nat} (h1 : 1 ≤ n) (h4 : n ≤ 4) (hk : k < 2 ^ n) (hi : i < n) (D : List Int) (hD : D.length = 2 ^ n) (hb : ∀ z, z < 2 ^ n → -1 ≤ D.getD z 0 ∧ D.getD z 0 ≤ 100) :
  PF Try.prog 143 [.agg (cS (skE n k i)), .vptr [vsI D], .vptr [.int .i64 (k : Nat)]] (.bool (down n D k i)) := by
 have hbl := zcg n k
 have hx := xorE (e := zby n k) (by rw [hbl]; exact h1) (by rw [hbl]; exact h4) (by rw [hbl]; exact hi)
 rw [zg3 h1 h4 hk, show zcy (zdc (zby n k) i) = nxt n k i from rfl] at hx
 have hy := zk0 (k := k) (i := i) h1 h4
 have g1 := zkr (D := D) (k := k) (by omega)
 have g2 := zkr (D := D) (k := nxt n k i) (by omega)
 have b1 := hb k hk
 refine zax env0_ok fn143 [(0, .agg (cS (skE n k i))), (1, .vptr [vsI D]), (2, .vptr [.int .i64 (k : Nat)])] (by show 3 ≤ 19; decide) rfl fun w0 N0 => ?_
 unfold ic143 cS skE
 refine zsr rfl (zbq rfl rfl (za1 rfl (onu (za7 (zdo env0_ok rfl rfl rfl (za6 rfl rfl (za6 rfl rfl (za9 rfl (za6 rfl rfl ?_)))))))))
 refine zb3 (op := .shl) rfl rfl (shl1 (show i < 4 by omega)) ?_
 refine zb3 (op := .xor) rfl rfl hx ?_
 repeat (first | refine za6 rfl rfl ?_ | refine zb3 (op := .sub) rfl rfl rfl ?_ | refine zba rfl rfl (by omega) (by assumption) rfl ?_)
 rw [zm3 _ (by omega) (by omega)]
 refine zb3 (op := .eql) rfl rfl rfl ?_
 refine za1 rfl (onu (zaf ?_))
 exact zae ⟨.inr rfl, _, rfl, rfl⟩
def fIx (p : Nat → Bool) : List Nat → Nat → Int
 | [], _ => -1
 | i :: r, j => if p i then (j : Nat) else fIx p r (j + 1)
theorem zty (p : Nat → Bool) : ∀ (ms : List Nat) (b : Nat), (ms.find? p = none ∧ fIx p ms b = -1) ∨ ∃ i j, ms.find? p = some i ∧ fIx p ms b = ((b + j : Nat) : Int) ∧ ms[j]? = some i
 | [], b => .inl ⟨rfl, rfl⟩
 | i :: r, b => by
  rw [List.find?_cons, fIx]
  cases hp : p i with
  | true => exact .inr ⟨i, 0, rfl, rfl, rfl⟩
  | false =>
   rcases zty p r (b + 1) with ⟨a, c⟩ | ⟨i2, j, a, c, d⟩
   ·exact .inl ⟨a, c⟩
   ·exact .inr ⟨i2, j + 1, a, by rw [if_neg (by decide), c]; omega, d⟩
def b119_0 : IC := .seq (.region [oM 9 (.bin .lss (.t 8) (.t 7))] none)
 (.seq (.cond (.t 9) (.skip)
 (.exit 0))
 (.seq (.block 1 (.seq (.region [oT 10 8,
  oT 5 10] none)
 (.seq (.region [oT 11 1,
  oT 12 0,
  oT 13 5,
  oM 14 (.idxs 2 (.t 12) (.t 13)),
  oL 15 2 14,
  oM 16 (.call (.t 11) [(.t 15)])] none)
 (.cond (.t 16) (.seq (.region [oT 17 5,
  oT 4 17] none)
 (.ret))
 (.skip)))))
 (.region [oM 18 (.bin .add (.t 8) (.c (.int .i64 1))),
  oT 8 18] none)))
-- slices.IndexFunc[[]pneumatic/api.Stroke,pneumatic/api.Stroke]
def ic119 : IC := .seq (.region [oM 4 (.mov (.c (.int .i64 0)))] none)
 (.seq (.seq (.region [oT 6 0,
  oM 7 (.len false (.t 6)),
  oM 8 (.mov (.c (.int .i64 0)))] none)
 (.block 0 (.loop b119_0)))
 (.seq (.region [oM 4 (.mov (.c (.int .i64 (-1))))] none)
 (.ret)))
theorem fn119 : env0.fn 119 = some ⟨19, ic119, [.t 4]⟩ := by kernel_rfl
set_option maxHeartbeats 2000000 in
theorem index119 {n k : Nat} (h1 : 1 ≤ n) (h4 : n ≤ 4) (hk : k < 2 ^ n) (ms : List Nat) (hms : ∀ i ∈ ms, i < n) (hml : ms.length ≤ n) (D : List Int) (hD : D.length = 2 ^ n) (hb : ∀ z, z < 2 ^ n → -1 ≤ D.getD z 0 ∧ D.getD z 0 ≤ 100) :
  PF Try.prog 119 [.vs (cSs (ms.map (skE n k))), .fn 143 [] [.vptr [vsI D], .vptr [.int .i64 (k : Nat)]]] (.int .i64 (fIx (down n D k) ms 0)) := by
 have hcl : (cSs (ms.map (skE n k))).length = ms.length := by rw [zbe, y07]
 refine zax env0_ok fn119 [(0, .vs (cSs (ms.map (skE n k)))), (1, .fn 143 [] [.vptr [vsI D], .vptr [.int .i64 (k : Nat)]])] (by show 2 ≤ 19; decide) rfl fun w0 N0 => ?_
 unfold ic119
 refine zsr rfl (za1 rfl (onu (za7 (zsr rfl (za1 rfl (zbb rfl rfl (za1 rfl (onu (zad ?_)))))))))
 rw [hcl]
 refine zbj (fun mm S => ∃ j, mm = ms.length - j ∧ j ≤ ms.length ∧ fIx (down n D k) ms 0 = fIx (down n D k) (ms.drop j) j ∧ S = st 19 [(0, .vs (cSs (ms.map (skE n k)))), (1, .fn 143 [] [.vptr [vsI D], .vptr [.int .i64 (k : Nat)]]), (7, .int .i64 (ms.length : Nat)), (8, .int .i64 (j : Nat))] [] 0 1) ms.length
  (zem (.cons rfl (.same rfl) (.cons rfl (.same rfl) (.cons rfl (.same rfl) (.cons rfl (.same rfl) .nil))))) ⟨0, rfl, y0q _, rfl, rfl⟩ ?_
 rintro mm S ⟨j, rfl, hj, hfx, rfl⟩
 unfold b119_0
 refine zsr rfl ?_
 refine zao rfl rfl rfl (fun h3 => ?_) fun h3 => ?_
 ·have hlt : j < ms.length := by have := of_decide_eq_true h3; omega
  have hmem := y0r hlt
  rw [y0d hlt, fIx] at hfx
  have hge := zd4 (l := ms.map (skE n k)) (i := j) (by rw [y07]; exact hlt)
  rw [List.getElem_map] at hge
  generalize ms[j] = i at hmem hfx hge
  have h143 := down143 h1 h4 hk (hms i hmem) D hD hb
  have hge : (cSs (ms.map (skE n k)))[((j : Nat) : Int).toNat]? = some (cS (skE n k i)) := hge
  repeat (first | refine za7 ?_ | refine za5 rfl ?_ | refine zai ?_ | refine za8 ?_ | refine zad ?_ | refine zab ?_ | refine zb2 rfl ?_ | refine za1 rfl ?_ | refine zal rfl rfl rfl rfl ?_ | refine zba rfl rfl (by omega) (by assumption) rfl ?_)
  refine zls rfl rfl rfl h143 noC ?_
  cases hp : down n D k i with
  | true =>
   rw [hp, if_pos rfl] at hfx
   rw [hfx]
   refine onu (zb2 rfl (zsr rfl (za1 rfl (za1 rfl (onu (zaf (zaa (za2 ?_))))))))
   refine zaw ?_
   refine zaa (za2 ?_)
   exact zae ⟨.inr rfl, _, rfl, rfl⟩
  | false =>
   rw [hp, if_neg (by decide)] at hfx
   refine onu (zb5 rfl (zab (zb9 (za8 (za5 rfl (zb3 (op := .add) rfl rfl rfl (za1 rfl (zai ?_))))))))
   rw [zar j (by omega)]
   exact zat (show ms.length - (j + 1) < ms.length - j by omega) (zem (.cons rfl (.same rfl) (.cons rfl (.same rfl) (.cons rfl (.same rfl) (.cons rfl (.same rfl) .nil))))) ⟨j + 1, rfl, hlt, hfx, rfl⟩
 ·have hj2 : j = ms.length := by have := of_decide_eq_false h3; omega
  subst hj2
  rw [y0p, fIx] at hfx
  rw [hfx]
  refine onu (za7 (zb5 rfl (zbi (zan ?_))))
  refine zc9 ?_
  refine zbh (za8 (zsr rfl (za1 rfl (onu (zaf ?_)))))
  exact zae ⟨.inr rfl, _, rfl, rfl⟩
def zyk (l : List Ex) (n : Nat) (D : List Int) (k : Nat) : AV := match (mv l n k).find? (down n D k) with
 | some i => .tup [.agg (cS (skE n k i)), .bool true]
 | none => .tup [.agg [.int .i64 0, .bool false], .bool false]
-- pneumatic/homing.first
def ic97 : IC := .seq (.region [oM 4 (.box (.t 0)),
  oM 6 (.box (.t 2)),
  oM 7 (.box (.t 3)),
  oM 8 (.alloc [.int .i64 0, .bool false]),
  oM 9 (.mov (.c (.bool false)))] none)
 (.seq (.region [oL 12 1 4,
  oT 13 1,
  oN 14 6,
  oM 15 (.call (.c (.fn 101 [] [])) [(.t 12), (.t 13), (.t 14)]),
  oT 10 15] none)
 (.seq (.region [oT 16 10,
  oM 17 (.mkfn 143 [] [(.t 7), (.t 6)]),
  oM 18 (.call (.c (.fn 119 [] [])) [(.t 16), (.t 17)]),
  oT 11 18] none)
 (.seq (.seq (.region [oT 19 11,
  oM 20 (.bin .lss (.t 19) (.c (.int .i64 0)))] none)
 (.cond (.t 20) (.seq (.region [oM 21 (.build [.int .i64 0, .bool false] []),
  ⟨none, .store 2 (.t 8) (.t 21), none⟩,
  oM 9 (.mov (.c (.bool false)))] none)
 (.ret))
 (.skip)))
 (.seq (.region [oT 22 10,
  oT 23 11,
  oM 24 (.idxs 2 (.t 22) (.t 23)),
  oL 25 2 24,
  ⟨none, .store 2 (.t 8) (.t 25), none⟩,
  oM 9 (.mov (.c (.bool true)))] none)
 (.ret)))))
theorem fn97 : env0.fn 97 = some ⟨26, ic97, [.cell 8 (some 2), .t 9]⟩ := by kernel_rfl
theorem first97 (l : List Ex) (hsl : ∀ y ∈ l, Slim y) {n k : Nat} (h1 : 1 ≤ n) (h4 : n ≤ 4) (hg : zc0 l n = 0) (hk : k < 2 ^ n) (D : List Int) (hD : D.length = 2 ^ n) (hb : ∀ z, z < 2 ^ n → -1 ≤ D.getD z 0 ∧ D.getD z 0 ≤ 100) :
  PF Try.prog 97 [.agg [.vs (cXs l)], .int .i64 (n : Nat), .int .i64 (k : Nat), vsI D] (zyk l n D k) := by
 have hbl := zcg n k
 have hmv := zud l hsl (zby n k) (by rw [hbl]; exact h1) (by rw [hbl]; exact h4) (by rw [hbl]; exact hg)
 rw [hbl, zg3 h1 h4 hk, zuf] at hmv
 have hmv : PF Try.prog 101 [.agg [.vs (cXs l)], .int .i64 (n : Nat), .int .i64 (k : Nat)] (.vs (cSs ((mv l n k).map (skE n k)))) := hmv
 have hmn : (mv l n k).length ≤ n := by
  have := List.length_filter_le (fun i => zrj l (zby n k) i) (List.range n)
  rwa [y1x] at this
 have hix := index119 h1 h4 hk (mv l n k) (fun i hi => zzp hi) hmn D hD hb
 refine zax env0_ok fn97 [(0, .agg [.vs (cXs l)]), (1, .int .i64 (n : Nat)), (2, .int .i64 (k : Nat)), (3, vsI D)] (by show 4 ≤ 26; decide) rfl fun w0 N0 => ?_
 unfold ic97 zyk
 refine zsr rfl (zbq rfl rfl (zbq rfl rfl (zbq rfl rfl (zay (za1 rfl (onr rfl (zal rfl rfl rfl rfl (za1 rfl (za6 rfl rfl ?_)))))))))
 refine zas rfl rfl hmv noC ?_
 refine za1 rfl (onr rfl (za1 rfl (zgw rfl rfl ?_)))
 refine zas rfl rfl hix (fun _ => rfl) ?_
 refine za1 rfl (onu (za7 (zsr rfl (za1 rfl ?_))))
 rcases zty (down n D k) (mv l n k) 0 with ⟨a, c⟩ | ⟨i, j, a, c, d⟩
 ·rw [a, c]
  refine zc6 rfl rfl rfl ?_
  refine onu (zb2 rfl (zsr rfl (zhr rfl rfl (zah rfl rfl rfl rfl rfl rfl rfl (za1 rfl (onu (zaf (za2 ?_))))))))
  exact zae ⟨.inr rfl, _, rfl, rfl⟩
 ·rw [a, c, y1j]
  have hge : (cSs ((mv l n k).map (skE n k)))[((j : Nat) : Int).toNat]? = some (cS (skE n k i)) := by
   rw [y0y, cSs, y1v, y0h, d]
   rfl
  refine zao rfl rfl rfl (fun h => absurd (of_decide_eq_true h) (by omega)) fun h => ?_
  unfold cS at hge ⊢
  refine onu (zb5 rfl (zab (za8 (zsr rfl (za1 rfl (za1 rfl (zba rfl rfl (by omega) (by assumption) rfl (zal rfl rfl rfl rfl (zah rfl rfl rfl rfl rfl rfl rfl (za1 rfl (zai ?_)))))))))))
  refine za8 (zaf ?_)
  exact zae ⟨.inr rfl, _, rfl, rfl⟩
def zih (l : List Ex) (n : Nat) (D : List Int) : Nat → Nat → List Sk
 | 0, _ => []
 | d + 1, k => match (mv l n k).find? (down n D k) with
  | some i => skE n k i :: zih l n D d (nxt n k i)
  | none => []
theorem zqj {l : List Ex} {n : Nat} {D : List Int} (h4 : n ≤ 4) (hD : LevW l n D) : ∀ z, z < 2 ^ n → -1 ≤ D.getD z 0 ∧ D.getD z 0 ≤ 100 := fun z hz => by
 have := pow4 h4
 have := hD.hi z hz
 exact ⟨hD.lo z hz, by omega⟩
theorem zl8 {l : List Ex} {n : Nat} {D : List Int} (h1 : 1 ≤ n) (h4 : n ≤ 4) (hD : LevW l n D) {k : Nat} (hk : k < 2 ^ n) (h0 : 0 < D.getD k 0) : ∃ i, (mv l n k).find? (down n D k) = some i ∧ i ∈ mv l n k ∧ D.getD (nxt n k i) 0 = D.getD k 0 - 1 := by
 obtain ⟨y, hy, i, hi, e1, e2⟩ := hD.pred k hk h0
 have hb := zzo h1 h4 hi
 have hn := zzu h1 h4 hy (zzp hi)
 rw [e1] at hb hn
 cases hf : (mv l n k).find? (down n D k) with
 | none =>
  have := List.find?_eq_none.1 hf i hb
  exact absurd (show down n D k i = true by unfold down; rw [hn]; exact beq_iff_eq.2 (by omega)) this
 | some j =>
  have hj := List.find?_some hf
  unfold down at hj
  exact ⟨j, rfl, List.mem_of_find?_eq_some hf, by simpa using hj⟩
def zvp (l : List Ex) (e : List Bool) : AV :=
 if zc0 l e.length = 0 then
  (if zds l (zdn e) then
   (if (zn0 l e.length).getD (zcy e) 0 < 0 then .tup [.vs [], .int .i64 6] else .tup [.vs (cSs (zih l e.length (zn0 l e.length) ((zn0 l e.length).getD (zcy e) 0).toNat (zcy e))), .int .i64 0])
  else .tup [.vs [], .int .i64 22])
 else .tup [.vs [], .int .i64 (zc0 l e.length)]
def b37_0 : IC := .seq (.seq (.region [oT 37 9,
  oT 38 8,
  oM 39 (.idxs 1 (.t 37) (.t 38)),
  oN 40 39,
  oM 41 (.bin .gtr (.t 40) (.c (.int .i64 0)))] none)
 (.cond (.t 41) (.skip)
 (.exit 0)))
 (.block 1 (.seq (.region [oL 43 1 2,
  oT 44 6,
  oT 45 8,
  oT 46 9,
  oM 47 (.call (.c (.fn 97 [] [])) [(.t 43), (.t 44), (.t 45), (.t 46)]),
  oT 42 47,
  oM 48 (.extract (.t 42) 0),
  oM 49 (.extract (.t 42) 1),
  oM 11 (.alloc [.int .i64 0, .bool false]),
  ⟨none, .store 2 (.t 11) (.t 48), none⟩,
  oT 12 49] none)
 (.seq (.seq (.region [oT 50 12,
  oM 51 (.un .not (.t 50))] none)
 (.cond (.t 51) (.seq (.region [oM 4 (.mov (.c (.nils))),
  oM 5 (.mov (.c (.int .i64 6)))] none)
 (.ret))
 (.skip)))
 (.seq (.region [oT 52 10,
  oL 53 2 11,
  oM 54 (.bslice 2 1 [.int .i64 0, .bool false] [(0, 2, (.t 53))]),
  oM 55 (.append 2 16 [.int .i64 0, .bool false] (.t 52) (.t 54)),
  oT 10 55] none)
 (.region [oT 56 8,
  oF 57 0 11,
  oN 58 57,
  oM 59 (.bin .shl (.c (.int .i64 1)) (.t 58)),
  oM 60 (.bin .xor (.t 56) (.t 59)),
  oT 8 60] none)))))
-- pneumatic/homing.Find
def ic37 : IC := .seq (.region [oM 2 (.box (.t 0)),
  oM 4 (.mov (.c (.nils))),
  oM 5 (.mov (.c (.int .i64 0)))] none)
 (.seq (.region [oT 13 1,
  oM 14 (.len false (.t 13)),
  oT 6 14] none)
 (.seq (.seq (.region [oL 15 1 2,
  oT 16 6,
  oM 17 (.call (.c (.fn 80 [] [])) [(.t 15), (.t 16)]),
  oT 7 17] none)
 (.seq (.region [oT 18 7,
  oM 19 (.bin .neq (.t 18) (.c (.int .i64 0)))] none)
 (.cond (.t 19) (.seq (.region [oT 20 7,
  oM 4 (.mov (.c (.nils))),
  oT 5 20] none)
 (.ret))
 (.skip))))
 (.seq (.region [oT 21 1,
  oM 22 (.call (.c (.fn 93 [] [])) [(.t 21)]),
  oT 8 22] none)
 (.seq (.seq (.region [oL 23 1 2,
  oT 24 6,
  oT 25 8,
  oM 26 (.call (.c (.fn 95 [] [])) [(.t 24), (.t 25)]),
  oM 27 (.call (.c (.fn 94 [] [])) [(.t 23), (.t 26)]),
  oM 28 (.un .not (.t 27))] (some [[], [], [], [1, 2], [0, 3, 3], [4]]))
 (.cond (.t 28) (.seq (.region [oM 4 (.mov (.c (.nils))),
  oM 5 (.mov (.c (.int .i64 22)))] none)
 (.ret))
 (.skip)))
 (.seq (.region [oL 29 1 2,
  oT 30 6,
  oM 31 (.call (.c (.fn 96 [] [])) [(.t 29), (.t 30)]),
  oT 9 31] none)
 (.seq (.seq (.region [oT 32 9,
  oT 33 8,
  oM 34 (.idxs 1 (.t 32) (.t 33)),
  oN 35 34,
  oM 36 (.bin .lss (.t 35) (.c (.int .i64 0)))] none)
 (.cond (.t 36) (.seq (.region [oM 4 (.mov (.c (.nils))),
  oM 5 (.mov (.c (.int .i64 6)))] none)
 (.ret))
 (.skip)))
 (.seq (.region [oM 10 (.mov (.c (.nils)))] none)
 (.seq (.block 0 (.loop b37_0))
 (.seq (.region [oT 61 10,
  oT 4 61,
  oM 5 (.mov (.c (.int .i64 0)))] none)
 (.ret))))))))))
theorem fn37 : env0.fn 37 = some ⟨62, ic37, [.t 4, .t 5]⟩ := by kernel_rfl
set_option maxHeartbeats 8000000 in
theorem find37 (l : List Ex) (hsl : ∀ y ∈ l, Slim y) (e : List Bool) (h4 : zc0 l e.length = 0 → e.length ≤ 4) : PF Try.prog 37 [.agg [.vs (cXs l)], vsB e] (zvp l e) := by
 have h28 := zk8 l hsl e.length
 have hel : (e.map fun b => ([.bool b] : List AV)).length = e.length := y07 ..
 refine zax env0_ok fn37 [(0, .agg [.vs (cXs l)]), (1, vsB e)] (by show 2 ≤ 62; decide) rfl fun w0 N0 => ?_
 unfold ic37 zvp
 repeat (first | refine za7 ?_ | refine za5 rfl ?_ | refine zai ?_ | refine za8 ?_ | refine za1 rfl ?_ | refine zal rfl rfl rfl rfl ?_ | refine zbb rfl rfl ?_ | refine zbq rfl rfl ?_)
 rw [hel]
 refine zas rfl rfl h28 noC ?_
 by_cases hg : zc0 l e.length = 0
 ·rw [if_pos hg, hg]
  obtain ⟨g1, g2, g3, g4⟩ := zig hg
  have h4 := h4 hg
  have h1 : 1 ≤ e.length := by omega
  have hD := zsk (l := l) h1 h4
  have hb := zqj h4 hD
  have hki := zu1 h1 h4
  have hp4 := pow4 h4
  refine za1 rfl (onr rfl (za1 rfl (zcc rfl rfl rfl (onu (zb5 rfl (zab (za8 (zsr rfl ?_))))))))
  refine za1 rfl ?_
  refine zas rfl rfl (zzc h1 h4) noC ?_
  refine za1 rfl (onu (za7 (za7 ?_)))
  refine zfl env0_ok [(95, [.int .i64 (e.length : Nat), .int .i64 (zcy e : Nat)], vsI (zdn e)), (94, [.agg [.vs (cXs l)], vsI (zdn e)], .bool (zds l (zdn e)))] (fun x hx => by
   rcases y0l.1 hx with rfl | hx
   ·exact ya1 h1 h4
   obtain rfl := y0i.1 hx
   exact zfp l hsl (zdn e) (zki hg)) (fun f => Nat.beq f 95 || Nat.beq f 94) rfl rfl rfl ?_
  refine zal rfl rfl rfl rfl (za1 rfl (za1 rfl ?_))
  refine zas rfl rfl zbn noC ?_
  refine zas rfl rfl (zd1 (by decide) zbn) noC ?_
  cases hf : zds l (zdn e) with
  | false =>
   refine zes rfl rfl (onu (zb2 rfl (zsr rfl (za1 rfl (za1 rfl (onu (zaf (za2 ?_))))))))
   exact zae ⟨.inr rfl, _, rfl, rfl⟩
  | true =>
   rw [if_pos rfl]
   refine zes rfl rfl (onu (zb5 rfl (zab (za8 (zsr rfl (zal rfl rfl rfl rfl (za1 rfl ?_)))))))
   refine zas rfl rfl (levels96 l hsl h1 h4 hg) noC ?_
   have hgk := zkr (D := zn0 l e.length) (k := zcy e) (by rw [hD.len]; exact hki)
   refine za1 rfl (onu (za7 (zsr rfl (za1 rfl (za1 rfl (zba rfl rfl (by omega) (by assumption) rfl (za6 rfl rfl ?_)))))))
   by_cases hneg : (zn0 l e.length).getD (zcy e) 0 < 0
   ·rw [if_pos hneg]
    refine zao rfl rfl rfl (fun _ => ?_) fun h => absurd hneg (of_decide_eq_false h)
    refine onu (zb2 rfl (zsr rfl (za1 rfl (za1 rfl (onu (zaf (za2 ?_)))))))
    exact zae ⟨.inr rfl, _, rfl, rfl⟩
   rw [if_neg hneg]
   refine zao rfl rfl rfl (fun h => absurd (of_decide_eq_true h) hneg) fun _ => ?_
   refine onu (zb5 rfl (zab (za8 (zsr rfl (za1 rfl (onu (za7 (zad ?_))))))))
   generalize hDD : zn0 l e.length = D at *
   refine zbj (fun mm S => ∃ k d A, mm = d ∧ k < 2 ^ e.length ∧ D.getD k 0 = (d : Int) ∧ zih l e.length D (D.getD (zcy e) 0).toNat (zcy e) = A ++ zih l e.length D d k ∧ A.length + d ≤ 100 ∧
     S = st 62 [(2, .vptr [.vs (cXs l)]), (6, .int .i64 (e.length : Nat)), (8, .int .i64 (k : Nat)), (9, vsI D), (10, .ms 0 0 2 0 A.length none)] [(0, 0, .cells (cSs A).flatten)] 1 1) (D.getD (zcy e) 0).toNat
    (zbd [(none, [])] [(0, 0, [.vs (cXs l)])] rfl rfl rfl (.cons rfl rfl .nil) (.new .nil) (l' := [(2, .vptr [.vs (cXs l)]), (6, .int .i64 (e.length : Nat)), (8, .int .i64 (zcy e : Nat)), (9, vsI D), (10, .ms 0 0 2 0 0 none)]) (.cons rfl (.fptr rfl rfl) (.cons rfl (.same rfl) (.cons rfl (.same rfl) (.cons rfl (.same rfl) (.cons rfl (.grow rfl) .nil)))))) ⟨zcy e, _, [], rfl, hki, by omega, rfl, by have := (hb _ hki).2; show 0 + _ ≤ _; omega, rfl⟩ ?_
   rintro mm S ⟨k, d, A, rfl, hk, hkd, hA, hal, rfl⟩
   have hgk := zkr (D := D) (k := k) (by rw [hD.len]; exact hk)
   unfold b37_0
   refine za7 (zsr rfl (za1 rfl (za1 rfl (zba rfl rfl (by omega) (by assumption) rfl (za6 rfl rfl ?_)))))
   cases mm with
   | zero =>
    refine zao rfl rfl rfl (fun h => absurd (of_decide_eq_true h) (by omega)) fun _ => ?_
    rw [zih, y0u] at hA
    rw [hA]
    refine onu (zb5 rfl (zbi (zan ?_)))
    refine zc9 ?_
    refine zbh (za8 (zsr rfl (za1 rfl (za1 rfl (za1 rfl (onu (zaf ?_)))))))
    refine zae ⟨.inr rfl, _, rfl, ?_⟩
    exact congrArg AV.tup (zjn (zpn (d := 2) A rfl) rfl)
   | succ d =>
    refine zao rfl rfl rfl (fun _ => ?_) fun h => absurd (of_decide_eq_false h) (by omega)
    obtain ⟨i, hfi, him, hDi⟩ := zl8 h1 h4 hD hk (by omega)
    have hin := zzp him
    have h97 := first97 l hsl h1 h4 hg hk D hD.len hb
    unfold zyk at h97
    rw [hfi] at h97
    simp only at h97
    rw [zih, hfi] at hA
    simp only at hA
    have hbl := zcg e.length k
    have hx := xorE (e := zby e.length k) (by rw [hbl]; exact h1) (by rw [hbl]; exact h4) (by rw [hbl]; exact hin)
    rw [zg3 h1 h4 hk, show zcy (zdc (zby e.length k) i) = nxt e.length k i from rfl] at hx
    refine onu (zb2 rfl (zab (za8 (zad (zsr rfl (zal rfl rfl rfl rfl (za1 rfl (za1 rfl (za1 rfl ?_)))))))))
    refine zas rfl rfl h97 noC ?_
    unfold cS skE
    repeat (first | refine za7 ?_ | refine za5 rfl ?_ | refine zai ?_ | refine za8 ?_ | refine zab ?_ | refine zb5 rfl ?_ | refine za1 rfl ?_ | refine zal rfl rfl rfl rfl ?_ | refine zah rfl rfl rfl rfl rfl rfl rfl ?_ | refine zay ?_ | refine zes rfl rfl ?_ | refine zc7 rfl rfl ?_)
    refine zvy [[.int .i64 (i : Nat), .bool (!((zby e.length k).getD i false))]] rfl rfl rfl rfl ?_
    refine zbp [[.int .i64 (i : Nat), .bool (!((zby e.length k).getD i false))]] rfl rfl rfl (fun h => Nat.noConfusion h) rfl (by decide) rfl (zjz _).symm (by show _ + 1 ≤ _; omega) ?_
    refine za1 rfl (onR rfl (za1 rfl (za9 rfl (za6 rfl rfl ?_))))
    refine zb3 (op := .shl) rfl rfl (shl1 (show i < 4 by omega)) ?_
    refine zb3 (op := .xor) rfl rfl hx ?_
    refine za1 rfl (zai (zb9 ?_))
    exact zat (show d < d + 1 by omega) (zbd [(some (0, 2), (cSs (A ++ [skE e.length k i])).flatten)] [] rfl rfl rfl .nil (.cons (by rw [ztl]; rfl) (.keep (cSs_hasM _)) .nil) (l' := [(2, .vptr [.vs (cXs l)]), (6, .int .i64 (e.length : Nat)), (8, .int .i64 (nxt e.length k i : Nat)), (9, vsI D), (10, .ms 0 0 2 0 (A ++ [skE e.length k i]).length none)]) (.cons rfl (.same rfl) (.cons rfl (.same rfl) (.cons rfl (.same rfl) (.cons rfl (.same rfl) (.cons (by rw [y0j]; rfl) (.ms rfl) .nil))))))
     ⟨nxt e.length k i, d, A ++ [skE e.length k i], rfl, zk0 h1 h4, by omega, by rw [hA, y1r]; rfl, by rw [y0j, y17]; omega, rfl⟩
 ·rw [if_neg hg]
  refine za1 rfl (onr rfl (za1 rfl ?_))
  refine zao rfl rfl rfl (fun h => ?_) fun h => absurd (by simpa using h) hg
  refine onu (zb2 rfl (zsr rfl (za1 rfl (za1 rfl (za1 rfl (onu (zaf (za2 ?_))))))))
  exact zae ⟨.inr rfl, _, rfl, rfl⟩
def chkS (l : List Ex) : List Sk → List Bool → Int
 | [], e => if zcy e = 0 then 0 else 3
 | s :: r, e => if s.a < 0 ∨ s.a ≥ e.length then 2 else if e.getD s.a.toNat false = s.o then 14 else if zrj l e s.a.toNat then chkS l r (zdc e s.a.toNat) else 22
def zto (l : List Ex) (e : List Bool) (L : List Sk) : Int :=
 if zc0 l e.length = 0 then (if L.length > 256 then 5 else if zds l (zdn e) then chkS l L e else 22) else zc0 l e.length
def b47_0 : IC := .seq (.region [oM 34 (.bin .lss (.t 33) (.t 32))] none)
 (.seq (.cond (.t 34) (.skip)
 (.exit 0))
 (.seq (.block 1 (.seq (.region [oM 35 (.idxs 2 (.t 31) (.t 33)),
  oL 36 2 35,
  oM 11 (.alloc [.int .i64 0, .bool false]),
  ⟨none, .store 2 (.t 11) (.t 36), none⟩] none)
 (.seq (.block 2 (.seq (.region [oF 38 0 11,
  oN 39 38,
  oM 40 (.bin .lss (.t 39) (.c (.int .i64 0))),
  oT 41 40,
  ⟨(some 42), .faddr 0 (.t 11), some (41, false)⟩,
  ⟨(some 43), .load none (.t 42), some (41, false)⟩,
  ⟨(some 44), .mov (.t 7), some (41, false)⟩,
  ⟨(some 45), .bin .geq (.t 43) (.t 44), some (41, false)⟩,
  oM 46 (.pick (.t 41) (.c (.bool true)) (.t 45)),
  oT 37 46] none)
 (.cond (.t 37) (.seq (.region [oM 6 (.mov (.c (.int .i64 2)))] none)
 (.ret))
 (.seq (.region [oT 48 9,
  oF 49 0 11,
  oN 50 49,
  oM 51 (.bin .shr (.t 48) (.t 50)),
  oM 52 (.bin .and (.t 51) (.c (.int .i64 1))),
  oM 53 (.bin .eql (.t 52) (.c (.int .i64 1))),
  oF 54 1 11,
  oN 55 54,
  oM 56 (.eqb false (.t 53) (.t 55)),
  oT 47 56] (some [[], [], [1], [0, 2], [3], [4], [], [6], [5, 7], [8]]))
 (.cond (.t 47) (.seq (.region [oM 6 (.mov (.c (.int .i64 14)))] none)
 (.ret))
 (.seq (.region [oL 58 1 3,
  oT 59 7,
  oT 60 9,
  oF 61 0 11,
  oN 62 61,
  oM 63 (.call (.c (.fn 104 [] [])) [(.t 58), (.t 59), (.t 60), (.t 62)]),
  oM 64 (.un .not (.t 63)),
  oT 57 64] none)
 (.cond (.t 57) (.seq (.region [oM 6 (.mov (.c (.int .i64 22)))] none)
 (.ret))
 (.skip))))))))
 (.region [oT 65 9,
  oF 66 0 11,
  oN 67 66,
  oM 68 (.bin .shl (.c (.int .i64 1)) (.t 67)),
  oM 69 (.bin .xor (.t 65) (.t 68)),
  oT 9 69] none))))
 (.region [oM 70 (.bin .add (.t 33) (.c (.int .i64 1))),
  oT 33 70] none)))
-- pneumatic/homing.Check
def ic47 : IC := .seq (.region [oM 3 (.box (.t 0)),
  oM 6 (.mov (.c (.int .i64 0)))] none)
 (.seq (.region [oT 12 1,
  oM 13 (.len false (.t 12)),
  oT 7 13] none)
 (.seq (.seq (.region [oL 14 1 3,
  oT 15 7,
  oM 16 (.call (.c (.fn 80 [] [])) [(.t 14), (.t 15)]),
  oT 8 16] none)
 (.seq (.region [oT 17 8,
  oM 18 (.bin .neq (.t 17) (.c (.int .i64 0)))] none)
 (.cond (.t 18) (.seq (.region [oT 19 8,
  oT 6 19] none)
 (.ret))
 (.skip))))
 (.seq (.seq (.region [oT 20 2,
  oM 21 (.len false (.t 20)),
  oM 22 (.bin .gtr (.t 21) (.c (.int .i64 256)))] none)
 (.cond (.t 22) (.seq (.region [oM 6 (.mov (.c (.int .i64 5)))] none)
 (.ret))
 (.skip)))
 (.seq (.region [oT 23 1,
  oM 24 (.call (.c (.fn 93 [] [])) [(.t 23)]),
  oT 9 24] none)
 (.seq (.seq (.region [oL 25 1 3,
  oT 26 7,
  oT 27 9,
  oM 28 (.call (.c (.fn 95 [] [])) [(.t 26), (.t 27)]),
  oM 29 (.call (.c (.fn 94 [] [])) [(.t 25), (.t 28)]),
  oM 30 (.un .not (.t 29))] (some [[], [], [], [1, 2], [0, 3, 3], [4]]))
 (.cond (.t 30) (.seq (.region [oM 6 (.mov (.c (.int .i64 22)))] none)
 (.ret))
 (.skip)))
 (.seq (.seq (.region [oT 31 2,
  oM 32 (.len false (.t 31)),
  oM 33 (.mov (.c (.int .i64 0)))] none)
 (.block 0 (.loop b47_0)))
 (.seq (.seq (.region [oT 71 9,
  oM 72 (.bin .neq (.t 71) (.c (.int .i64 0)))] none)
 (.cond (.t 72) (.seq (.region [oM 6 (.mov (.c (.int .i64 3)))] none)
 (.ret))
 (.skip)))
 (.seq (.region [oM 6 (.mov (.c (.int .i64 0)))] none)
 (.ret)))))))))
theorem fn47 : env0.fn 47 = some ⟨73, ic47, [.t 6]⟩ := by kernel_rfl
set_option maxHeartbeats 4000000 in
theorem check47 (l : List Ex) (hsl : ∀ y ∈ l, Slim y) (e : List Bool) (h4 : zc0 l e.length = 0 → e.length ≤ 4) (L : List Sk) : PF Try.prog 47 [.agg [.vs (cXs l)], vsB e, .vs (cSs L)] (.int .i64 (zto l e L)) := by
 have h28 := zk8 l hsl e.length
 have hel : (e.map fun b => ([.bool b] : List AV)).length = e.length := y07 ..
 have hLl : (cSs L).length = L.length := zbe L
 refine zax env0_ok fn47 [(0, .agg [.vs (cXs l)]), (1, vsB e), (2, .vs (cSs L))] (by show 3 ≤ 73; decide) rfl fun w0 N0 => ?_
 unfold ic47 zto
 repeat (first | refine za7 ?_ | refine za5 rfl ?_ | refine zai ?_ | refine za8 ?_ | refine za1 rfl ?_ | refine zal rfl rfl rfl rfl ?_ | refine zbb rfl rfl ?_ | refine zbq rfl rfl ?_)
 rw [hel]
 refine zas rfl rfl h28 noC ?_
 by_cases hg : zc0 l e.length = 0
 ·rw [if_pos hg, hg]
  obtain ⟨g1, g2, g3, g4⟩ := zig hg
  have h4 := h4 hg
  have h1 : 1 ≤ e.length := by omega
  refine za1 rfl (onr rfl (za1 rfl (zcc rfl rfl rfl (onu (zb5 rfl (zab (za8 (za7 (za7 ?_)))))))))
  refine za5 rfl (za1 rfl (zbb rfl rfl ?_))
  by_cases hL : L.length > 256
  ·rw [if_pos hL]
   refine zao rfl rfl rfl (fun h => ?_) fun h => absurd h (by rw [hLl]; simp; omega)
   refine onu (zb2 rfl (zsr rfl (za1 rfl (onu (zaf (za2 ?_))))))
   exact zae ⟨.inr rfl, _, rfl, rfl⟩
  rw [if_neg hL]
  refine zao rfl rfl rfl (fun h => absurd h (by rw [hLl]; simp; omega)) fun h => ?_
  refine onu (zb5 rfl (zab (za8 (zsr rfl (za1 rfl ?_)))))
  refine zas rfl rfl (zzc h1 h4) noC ?_
  refine za1 rfl (onu (za7 (za7 ?_)))
  refine zfl env0_ok [(95, [.int .i64 (e.length : Nat), .int .i64 (zcy e : Nat)], vsI (zdn e)), (94, [.agg [.vs (cXs l)], vsI (zdn e)], .bool (zds l (zdn e)))] (fun x hx => by
   rcases y0l.1 hx with rfl | hx
   ·exact ya1 h1 h4
   obtain rfl := y0i.1 hx
   exact zfp l hsl (zdn e) (zki hg)) (fun f => Nat.beq f 95 || Nat.beq f 94) rfl rfl rfl ?_
  refine zal rfl rfl rfl rfl (za1 rfl (za1 rfl ?_))
  refine zas rfl rfl zbn noC ?_
  refine zas rfl rfl (zd1 (by decide) zbn) noC ?_
  cases hf : zds l (zdn e) with
  | false =>
   refine zes rfl rfl (onu (zb2 rfl (zsr rfl (za1 rfl (onu (zaf (za2 ?_)))))))
   exact zae ⟨.inr rfl, _, rfl, rfl⟩
  | true =>
   rw [if_pos rfl]
   refine zes rfl rfl (onu (zb5 rfl (zab (za8 (za7 (zsr rfl (za1 rfl (zbb rfl rfl (za1 rfl (onu ?_))))))))))
   refine zad ?_
   refine zbj (fun mm S => ∃ i e', mm = L.length - i ∧ i ≤ L.length ∧ e'.length = e.length ∧ chkS l L e = chkS l (L.drop i) e' ∧
     S = st 73 [(3, .vptr [.vs (cXs l)]), (7, .int .i64 (e.length : Nat)), (9, .int .i64 (zcy e' : Nat)), (31, .vs (cSs L)), (32, .int .i64 (cSs L).length), (33, .int .i64 (i : Nat))] [] 0 1) L.length
    (zbd [] [(0, 0, [.vs (cXs l)])] rfl rfl rfl (.cons rfl rfl .nil) .nil (l' := [(3, .vptr [.vs (cXs l)]), (7, .int .i64 (e.length : Nat)), (9, .int .i64 (zcy e : Nat)), (31, .vs (cSs L)), (32, .int .i64 (cSs L).length), (33, .int .i64 ((0 : Nat) : Int))]) (.cons rfl (.fptr rfl rfl) (.cons rfl (.same rfl) (.cons rfl (.same rfl) (.cons rfl (.same rfl) (.cons rfl (.same rfl) (.cons rfl (.same rfl) .nil))))))) ⟨0, e, rfl, y0q _, rfl, rfl, rfl⟩ ?_
   rintro mm S ⟨i, e', rfl, hi, hel', hch, rfl⟩
   have hg' : zc0 l e'.length = 0 := by rw [hel']; exact hg
   have h1' : 1 ≤ e'.length := by omega
   have h4' : e'.length ≤ 4 := by omega
   unfold b47_0
   refine zsr rfl ?_
   refine zao rfl rfl rfl (fun h3 => ?_) fun h3 => ?_
   ·have hlt : i < L.length := by
     have : ((i : Nat) : Int) < ((cSs L).length : Nat) := of_decide_eq_true h3
     rw [hLl] at this
     omega
    have hg2 := zd4 hlt
    rw [y0d hlt] at hch
    generalize L[i] = s at hg2 hch
    obtain ⟨sa, so⟩ := s
    have hg2 : (cSs L)[((i : Nat) : Int).toNat]? = some [.int .i64 sa, .bool so] := hg2
    rw [chkS] at hch
    simp only at hch
    refine onu (za7 (zb2 rfl (zab (za8 (za7 (zad (zsr rfl (zba rfl rfl (by omega) (by assumption) rfl (zal rfl rfl rfl rfl (zay (zah rfl rfl rfl rfl rfl rfl rfl ?_)))))))))))
    refine onu (za7 (zad (zsr rfl (za9 rfl (za6 rfl rfl ?_)))))
    by_cases ha0 : sa < 0
    ·rw [if_pos (.inl ha0)] at hch
     rw [hch]
     refine zc6 rfl rfl (by show some (AV.bool (decide (sa < 0))) = _; rw [decide_eq_true ha0]) ?_
     repeat (first | refine za7 ?_ | refine za5 rfl ?_ | refine zai ?_ | refine za8 ?_ | refine zb2 rfl ?_ | refine zaf ?_ | refine za2 ?_ | refine zaa ?_ | refine zbz rfl rfl ?_ | refine za1 rfl ?_ | refine zau rfl rfl ?_)
     refine zaw ?_
     refine zaa (za2 ?_)
     exact zae ⟨.inr rfl, _, rfl, rfl⟩
    refine zcc rfl rfl (by show some (AV.bool (decide (sa < 0))) = _; rw [decide_eq_false ha0]) ?_
    refine za1 rfl (zbc rfl (za9 rfl (zbc rfl (za6 rfl rfl (zbc rfl (za1 rfl (zbc rfl ?_)))))))
    by_cases hal : sa ≥ (e.length : Int)
    ·rw [if_pos (.inr (by omega))] at hch
     rw [hch]
     refine zc6 rfl rfl (by show some (AV.bool (decide (sa ≥ (e.length : Int)))) = _; rw [decide_eq_true hal]) ?_
     refine zap rfl rfl (za1 rfl (onu (zb2 rfl (zsr rfl (za1 rfl (onu (zaf (zaa (za2 (zaa ?_))))))))))
     refine za2 ?_
     refine zaw ?_
     refine zaa (za2 ?_)
     exact zae ⟨.inr rfl, _, rfl, rfl⟩
    refine zcc rfl rfl (by show some (AV.bool (decide (sa ≥ (e.length : Int)))) = _; rw [decide_eq_false hal]) ?_
    rw [if_neg (by omega)] at hch
    obtain ⟨a, rfl⟩ : ∃ a : Nat, sa = (a : Int) := ⟨sa.toNat, by omega⟩
    rw [y0y] at hch
    have ha : a < e'.length := by omega
    refine zap rfl rfl (za1 rfl (onu (zb5 rfl (za7 (zdo env0_ok rfl rfl rfl (za1 rfl (za9 rfl (za6 rfl rfl ?_))))))))
    refine zb3 (op := .shr) rfl rfl (shrE h1' h4' ha) ?_
    refine zb3 (op := .and) rfl rfl (andE h1' h4' ha) ?_
    refine zb3 (op := .eql) rfl rfl (eqE _) ?_
    refine za9 rfl (za6 rfl rfl ?_)
    by_cases hb : e'.getD a false = so
    ·rw [if_pos hb] at hch
     rw [hch]
     refine o_eqb rfl rfl (fun _ => ?_) fun h => absurd h (by rw [hb]; simp)
     refine za1 rfl (onu (zb2 rfl (zsr rfl (za1 rfl (onu (zaf (zaa (za2 (zaa (za2 ?_))))))))))
     refine zaw ?_
     refine zaa (za2 ?_)
     exact zae ⟨.inr rfl, _, rfl, rfl⟩
    rw [if_neg hb] at hch
    refine o_eqb rfl rfl (fun h => absurd (by simpa using h) hb) fun h => ?_
    refine za1 rfl (onu (zb5 rfl (zsr rfl (zal rfl rfl rfl rfl (za1 rfl (za1 rfl (za9 rfl (za6 rfl rfl ?_))))))))
    have hmay := may104 l hsl e' h1' h4' hg' a ha
    rw [hel'] at hmay
    refine zas rfl rfl hmay noC ?_
    cases hm : zrj l e' a with
    | false =>
     rw [hm, if_neg (by simp)] at hch
     rw [hch]
     refine zes rfl rfl (za1 rfl (onu (zb2 rfl (zsr rfl (za1 rfl (onu (zaf (zaa (za2 (zaa ?_))))))))))
     refine za2 ?_
     refine zaw ?_
     refine zaa (za2 ?_)
     exact zae ⟨.inr rfl, _, rfl, rfl⟩
    | true =>
     rw [hm, if_pos rfl] at hch
     refine zes rfl rfl (za1 rfl (onu (zb5 rfl (zab (zb9 (za8 (za5 rfl (za1 rfl (za9 rfl (za6 rfl rfl ?_))))))))))
     refine zb3 (op := .shl) rfl rfl (shl1 (by omega)) ?_
     refine zb3 (op := .xor) rfl rfl (xorE h1' h4' ha) ?_
     refine za1 rfl (zai (zb9 (za8 (za5 rfl (zb3 (op := .add) rfl rfl rfl (za1 rfl (zai ?_)))))))
     rw [zar i (by omega)]
     exact zat (show L.length - (i + 1) < L.length - i by omega) (zem (.cons rfl (.same rfl) (.cons rfl (.same rfl) (.cons rfl (.same rfl) (.cons rfl (.same rfl) (.cons rfl (.same rfl) (.cons rfl (.same rfl) .nil))))))) ⟨i + 1, zdc e' a, rfl, hlt, by rw [zdv, hel'], hch, rfl⟩
   ·have hi2 : i = L.length := by
     have : ¬ ((i : Nat) : Int) < ((cSs L).length : Nat) := of_decide_eq_false h3
     rw [hLl] at this
     omega
    subst hi2
    rw [y0p, chkS] at hch
    rw [hch]
    refine onu (za7 (zb5 rfl (zbi (zan ?_))))
    refine zc9 ?_
    refine zbh (za8 (za7 (zsr rfl (za1 rfl ?_))))
    by_cases h0 : zcy e' = 0
    ·rw [if_pos h0]
     refine zao rfl rfl rfl (fun h => absurd h (by rw [h0]; simp)) fun _ => ?_
     refine onu (zb5 rfl (zab (za8 (zsr rfl (za1 rfl (onu (zaf ?_)))))))
     exact zae ⟨.inr rfl, _, rfl, rfl⟩
    ·rw [if_neg h0]
     refine zao rfl rfl rfl (fun _ => ?_) fun h => absurd h (by simpa using h0)
     refine onu (zb2 rfl (zsr rfl (za1 rfl (onu (zaf (za2 ?_))))))
     exact zae ⟨.inr rfl, _, rfl, rfl⟩
 ·rw [if_neg hg]
  refine za1 rfl (onr rfl (za1 rfl ?_))
  refine zao rfl rfl rfl (fun h => ?_) fun h => absurd (by simpa using h) hg
  refine onu (zb2 rfl (zsr rfl (za1 rfl (za1 rfl (onu (zaf (za2 ?_)))))))
  exact zae ⟨.inr rfl, _, rfl, rfl⟩
theorem own44_ok : zqt Try.prog (env0.tab [] []) 80 44 (fun _ => none) (allE.map fun e => ([vsB e], e.map AV.bool)) = true := by kernel_rfl
theorem zld : ∀ l : List Bool, flat.flatL (l.map AV.bool) = true
 | [] => rfl
 | z :: l => by simp only [y1d, flat.flatL, zld l]; rfl
theorem clone44 {e : List Bool} (h1 : 1 ≤ e.length) (h4 : e.length ≤ 4) : PFo Try.prog 44 [vsB e] 1 e.length none (e.map AV.bool) := by
 have := ze6 (env0_ok.tab TabOk.nil) own44_ok _ (y0o.2 ⟨e, zdt e h1 h4, rfl⟩)
 simpa using this
-- slices.Index[[]pneumatic/api.Stroke,pneumatic/api.Stroke]
-- slices.Contains[[]pneumatic/api.Stroke,pneumatic/api.Stroke]
structure Prv (l : List Ex) (n : Nat) (D : List Int) (k : Nat) : Prop where
 shut : zds l (zdn (zby n k)) = false → D.getD k 0 = -1
 zero : zds l (zdn (zby n k)) = true → (D.getD k 0 = 0 ↔ k = 0)
 near : zds l (zdn (zby n k)) = true → ∀ i ∈ mv l n k, (D.getD (nxt n k i) 0 < 0 ↔ D.getD k 0 < 0) ∧ D.getD (nxt n k i) 0 - D.getD k 0 ≤ 1 ∧ D.getD k 0 - D.getD (nxt n k i) 0 ≤ 1
 low : zds l (zdn (zby n k)) = true → D.getD k 0 ≤ 0 ∨ ∃ i ∈ mv l n k, D.getD (nxt n k i) 0 = D.getD k 0 - 1
-- slices.IndexFunc[[]int,int]
-- slices.ContainsFunc[[]int,int]
theorem zmx {l : List Ex} {n : Nat} {D : List Int} (h1 : 1 ≤ n) (h4 : n ≤ 4) (hD : LevW l n D) : ∀ (d k : Nat), k < 2 ^ n → D.getD k 0 = (d : Int) → (zih l n D d k).length = d
 | 0, _, _, _ => rfl
 | d + 1, k, hk, hd => by
  obtain ⟨i, hf, hi, e⟩ := zl8 h1 h4 hD hk (by omega)
  rw [zih, hf]
  simp only [y0m]
  rw [zmx h1 h4 hD d (nxt n k i) (zk0 h1 h4) (by omega)]
theorem zqf {l : List Ex} {n : Nat} {D : List Int} (h1 : 1 ≤ n) (h4 : n ≤ 4) (hD : LevW l n D) : ∀ (d k : Nat), k < 2 ^ n → D.getD k 0 = (d : Int) → chkS l (zih l n D d k) (zby n k) = 0
 | 0, k, hk, hd => by
  have := hD.zer k hk hd
  subst this
  rw [zih, chkS, zg3 h1 h4 hk, if_pos rfl]
 | d + 1, k, hk, hd => by
  obtain ⟨i, hf, hi, e⟩ := zl8 h1 h4 hD hk (by omega)
  have hin := zzp hi
  have hm := (y1o.1 hi).2
  rw [zih, hf]
  simp only
  rw [chkS]
  have ha : (skE n k i).a = (i : Int) := rfl
  have ho : (skE n k i).o = !((zby n k).getD i false) := rfl
  rw [ha, ho, zcg, if_neg (by omega), y0y, if_neg (by cases (zby n k).getD i false <;> simp), if_pos hm, ← znz h1 h4]
  exact zqf h1 h4 hD d (nxt n k i) (zk0 h1 h4) (by omega)
def zi0 (l : List Sp) : List Sk := l.flatMap fun p => p.l
theorem zv8 (l : List Sp) : (zi0 l).length = zib l := by
 unfold zi0 zib
 induction l with
 | nil => rfl
 | cons p l ih => rw [List.flatMap_cons, y0j, ih]; rfl
theorem cSs_app (a b : List Sk) : cSs (a ++ b) = cSs a ++ cSs b := y2h ..
theorem yb5 {l : List Sp} {i : Nat} (h : i < l.length) : zi0 (l.take (i + 1)) = zi0 (l.take i) ++ l[i].l := by
 unfold zi0
 rw [y25, y06 h, List.flatMap_append]
 simp
theorem zy6 {l : List Sp} (hs : ∀ p ∈ l, p.l.length ≤ 6) : zib l ≤ 6 * l.length := by
 unfold zib
 induction l with
 | nil => exact y0q _
 | cons p l ih =>
  have h1 := hs p (y05 ..)
  have h2 := ih fun q hq => hs q (y04 _ hq)
  rw [y1d, List.sum_cons, y0m]
  omega
theorem cSs_size {l : List Sk} : ∀ x ∈ cSs l, x.length = 2 := fun x hx => by
 obtain ⟨s, _, rfl⟩ := y0o.1 hx
 rfl
theorem zxr (l : List Sk) : (cSs l).flatten.all AV.isCell = true := by
 induction l with
 | nil => rfl
 | cons s l ih =>
  show ((cS s) ++ (cSs l).flatten).all _ = true
  rw [List.all_append, ih]
  rfl
theorem zxs (l : List Sk) : hasM.hasML (cSs l).flatten = false := by
 induction l with
 | nil => rfl
 | cons s l ih => exact ih
theorem zyo (l : List Sk) : (cSs l).flatten.length = l.length * 2 := by
 induction l with
 | nil => rfl
 | cons s l ih =>
  show (cS s ++ (cSs l).flatten).length = _
  rw [y0j, ih, y0m]
  show 2 + _ = _
  omega
def b64_0 : IC := .seq (.seq (.region [oT 5 4,
  oF 6 1 1,
  oN 7 6,
  oM 8 (.len false (.t 7)),
  oM 9 (.bin .lss (.t 5) (.t 8))] none)
 (.cond (.t 9) (.skip)
 (.exit 0)))
 (.seq (.block 1 (.region [oT 12 3,
  oF 13 1 1,
  oN 14 13,
  oT 15 4,
  oM 16 (.idxs 2 (.t 14) (.t 15)),
  oF 17 0 16,
  oN 18 17,
  oM 19 (.append 2 16 [.int .i64 0, .bool false] (.t 12) (.t 18)),
  oT 3 19] none))
 (.region [oT 10 4,
  oM 11 (.bin .add (.t 10) (.c (.int .i64 1))),
  oT 4 11] none))
-- pneumatic/pneumaticref14.First
def ic64 : IC := .seq (.region [oM 1 (.box (.t 0)),
  oM 2 (.mov (.c (.nils)))] none)
 (.seq (.region [oM 3 (.mov (.c (.nils)))] none)
 (.seq (.seq (.region [oM 4 (.mov (.c (.int .i64 0)))] none)
 (.block 0 (.loop b64_0)))
 (.seq (.region [oT 20 3,
  oT 2 20] none)
 (.ret))))
theorem fn64 : env0.fn 64 = some ⟨21, ic64, [.t 2]⟩ := by kernel_rfl
set_option maxHeartbeats 2000000 in
theorem first64 (n : Int) (l : List Sp) (hl : l.length ≤ 64) (hs : ∀ p ∈ l, p.l.length ≠ 0 ∧ p.l.length ≤ 6) : PF Try.prog 64 [.agg (cQ n l)] (.vs (cSs (zi0 l))) := by
 have hcl : (cPs l).length = l.length := zct l
 refine zax env0_ok fn64 [(0, .agg [.int .i64 n, .vs (cPs l)])] (by show 1 ≤ 21; decide) rfl fun w0 N0 => ?_
 unfold ic64
 repeat (first | refine za7 ?_ | refine za5 rfl ?_ | refine zai ?_ | refine za8 ?_ | refine zad ?_ | refine za1 rfl ?_ | refine zbq rfl rfl ?_)
 refine zbj (fun mm S => ∃ i, mm = l.length - i ∧ i ≤ l.length ∧ S = st 21 [(1, .vptr [.int .i64 n, .vs (cPs l)]), (3, .ms 0 0 2 0 (zi0 (l.take i)).length none), (4, .int .i64 (i : Nat))] [(0, 0, .cells (cSs (zi0 (l.take i))).flatten)] 1 1) l.length
  (zbd [(none, [])] [(0, 0, [.int .i64 n, .vs (cPs l)])] rfl rfl rfl (.cons rfl rfl .nil) (.new .nil) (l' := [(1, .vptr [.int .i64 n, .vs (cPs l)]), (3, .ms 0 0 2 0 0 none), (4, .int .i64 ((0 : Nat) : Int))]) (.cons rfl (.fptr rfl rfl) (.cons rfl (.grow rfl) (.cons rfl (.same rfl) .nil)))) ⟨0, rfl, y0q _, rfl⟩ ?_
 rintro mm S ⟨i, rfl, hi, rfl⟩
 unfold b64_0
 refine za7 (zsr rfl (za1 rfl (zak rfl rfl rfl (za6 rfl rfl (zbb rfl rfl ?_)))))
 refine zao rfl rfl rfl (fun h3 => ?_) fun h3 => ?_
 ·have hlt : i < l.length := by
   have := of_decide_eq_true h3
   rw [hcl] at this
   omega
  have hg := zgp hlt
  have htk := yb5 hlt
  have hc1 : (zi0 (l.take i)).length ≤ 384 := by
   rw [zv8]
   have := zy6 (l := l.take i) fun p hp => (hs p (y2c hp)).2
   rw [y1w] at this
   omega
  have hq := hs _ (y0r hlt)
  generalize l[i] = p at hg htk hq
  obtain ⟨q, w⟩ := p
  have hg : (cPs l)[((i : Nat) : Int).toNat]? = some [.vs (cSs q), .int .i64 w] := hg
  have htk : zi0 (l.take (i + 1)) = zi0 (l.take i) ++ q := htk
  obtain ⟨h0, hq⟩ : q.length ≠ 0 ∧ q.length ≤ 6 := hq
  generalize zi0 (l.take i) = W at *
  generalize hW2 : zi0 (l.take (i + 1)) = W2 at *
  have hcq : (cSs q).length = q.length := zbe q
  refine onu (zb2 rfl (zab (za8 (za7 (zad (za5 rfl (za1 rfl (zak rfl rfl rfl (za6 rfl rfl (za1 rfl (zba rfl rfl (by omega) (by assumption) rfl (zak rfl rfl rfl ?_))))))))))))
  refine za6 rfl rfl ?_
  refine zbp (cSs q) rfl rfl (ztw cSs_size) (by rw [hcq]; exact h0) (zxr q) (by decide) rfl (by rw [zyo]) (by rw [hcq]; omega) ?_
  refine za1 rfl (zai (zb9 (za8 (za5 rfl (za1 rfl (zb3 (op := .add) rfl rfl rfl (za1 rfl (zai ?_))))))))
  rw [zar i (by omega)]
  exact zat (show l.length - (i + 1) < l.length - i by omega) (zbd (l' := [(1, .vptr [.int .i64 n, .vs (cPs l)]), (3, .ms 0 0 2 0 W2.length none), (4, .int .i64 ((i + 1 : Nat) : Int))]) [(some (0, 1), (cSs W2).flatten)] [] rfl rfl rfl .nil (.cons (by rw [htk, cSs_app, List.flatten_append]; rfl) (.keep (zxs _)) .nil) (.cons rfl (.same rfl) (.cons (by rw [htk, y0j, ← hcq]; rfl) (.ms rfl) (.cons rfl (.same rfl) .nil)))) ⟨i + 1, rfl, hlt, by rw [hW2]; rfl⟩
 ·have hi2 : i = l.length := by
   have := of_decide_eq_false h3
   rw [hcl] at this
   omega
  subst hi2
  rw [y1k]
  refine onu (zb5 rfl (zbi (zan ?_)))
  refine zc9 ?_
  refine zbh (za8 (zsr rfl (za1 rfl (za1 rfl (onu (zaf ?_))))))
  exact zae ⟨.inr rfl, _, rfl, zpn (zi0 l) rfl⟩
theorem zyj {f : List Ex} {e : List Bool} (hg : zc0 f e.length = 0) (hf : zds f (zdn e) = true) (h0 : 0 ≤ zgc f e) : zvp f e = .tup [.vs (cSs (zih f e.length (zn0 f e.length) (zgc f e).toNat (zcy e))), .int .i64 0] := by
 unfold zgc at *
 unfold zvp
 rw [if_pos hg, if_pos hf, if_neg (by omega)]
-- pneumatic/pneumatictop.caseLevel
def ic66 : IC := .seq (.region [oM 3 (.box (.t 0)),
  oM 6 (.mov (.c (.bool false)))] none)
 (.seq (.region [oL 10 1 3,
  oT 11 1,
  oM 12 (.call (.c (.fn 37 [] [])) [(.t 10), (.t 11)]),
  oT 9 12,
  oM 13 (.extract (.t 9) 0),
  oM 14 (.extract (.t 9) 1),
  oT 7 13,
  oT 8 14] none)
 (.seq (.region [oT 15 8,
  oM 16 (.bin .eql (.t 15) (.c (.int .i64 0))),
  oT 17 16,
  ⟨(some 18), .mov (.t 7), some (17, true)⟩,
  ⟨(some 19), .len false (.t 18), some (17, true)⟩,
  ⟨(some 20), .mov (.t 2), some (17, true)⟩,
  ⟨(some 21), .bin .leq (.t 19) (.t 20), some (17, true)⟩,
  oM 22 (.pick (.t 17) (.t 21) (.c (.bool false))),
  oT 23 22,
  ⟨(some 24), .load (some 1) (.t 3), some (23, true)⟩,
  ⟨(some 25), .mov (.t 1), some (23, true)⟩,
  ⟨(some 26), .mov (.t 7), some (23, true)⟩,
  ⟨(some 27), .call (.c (.fn 47 [] [])) [(.t 24), (.t 25), (.t 26)], some (23, true)⟩,
  ⟨(some 28), .bin .eql (.t 27) (.c (.int .i64 0)), some (23, true)⟩,
  oM 29 (.pick (.t 23) (.t 28) (.c (.bool false))),
  oT 6 29] none)
 (.ret)))
theorem fn66 : env0.fn 66 = some ⟨30, ic66, [.t 6]⟩ := by kernel_rfl
set_option maxHeartbeats 2000000 in
theorem level66 (f : List Ex) (hsl : ∀ y ∈ f, Slim y) (e : List Bool) (h1 : 1 ≤ e.length) (h4 : e.length ≤ 4) (hg : zc0 f e.length = 0) (hf : zds f (zdn e) = true) (h0 : 0 ≤ zgc f e) (most : Int) (hm : zgc f e ≤ most) : PF Try.prog 66 [.agg [.vs (cXs f)], vsB e, .int .i64 most] (.bool true) := by
 have p1 := find37 f hsl e (fun _ => h4)
 rw [zyj hg hf h0] at p1
 have hD := zsk (l := f) h1 h4
 have hk := zu1 h1 h4
 have hd : (zn0 f e.length).getD (zcy e) 0 = (((zgc f e).toNat : Nat) : Int) := by
  show zgc f e = _
  omega
 have hlen := zmx h1 h4 hD (zgc f e).toNat (zcy e) hk hd
 have hchk := zqf h1 h4 hD (zgc f e).toNat (zcy e) hk hd
 rw [zk5 h1 h4] at hchk
 generalize zih f e.length (zn0 f e.length) (zgc f e).toNat (zcy e) = L at *
 have hcl : (cSs L).length = L.length := zbe L
 have p2 := check47 f hsl e (fun _ => h4) L
 have hb : (zgc f e).toNat ≤ 100 := by
  have := zqj h4 hD (zcy e) hk
  rw [hd] at this
  omega
 have hc : zto f e L = 0 := by
  unfold zto
  rw [if_pos hg, if_neg (by omega), if_pos hf]
  exact hchk
 rw [hc] at p2
 refine zax env0_ok fn66 [(0, .agg [.vs (cXs f)]), (1, vsB e), (2, .int .i64 most)] (by show 3 ≤ 30; decide) rfl fun w0 N0 => ?_
 unfold ic66
 refine zsr rfl (zbq rfl rfl (za1 rfl (onr rfl (zal rfl rfl rfl rfl (za1 rfl ?_)))))
 refine zas rfl rfl p1 noC ?_
 repeat (first | refine za7 ?_ | refine za5 rfl ?_ | refine zai ?_ | refine za8 ?_ | refine zbc rfl ?_ | refine za1 rfl ?_ | refine zbb rfl rfl ?_ | refine zc7 rfl rfl ?_ | refine zc6 rfl rfl rfl ?_)
 rw [hcl]
 try refine zbc rfl ?_
 refine zao rfl rfl rfl (fun _ => ?_) fun h => absurd (of_decide_eq_false h) (by omega)
 repeat (first | refine zbc rfl ?_ | refine za1 rfl ?_ | refine zal rfl rfl rfl rfl ?_ | refine zau rfl rfl ?_)
 try refine zbc rfl ?_
 refine zas rfl rfl p2 noC ?_
 refine zbc rfl (zc6 rfl rfl rfl (zau rfl rfl (za1 rfl (onu (zaf ?_)))))
 exact zae ⟨.inr rfl, _, rfl, rfl⟩
-- pneumatic/pneumatictop.caseHomes$1
def ic112 : IC := .seq (.region [oM 2 (.alloc [.int .i64 0, .int .i64 0, .nils])] none)
 (.seq (.region [oT 3 0,
  oM 4 (.build [.int .i64 0, .int .i64 0, .nils] [(0, 1, (.c (.int .i64 1))), (1, 1, (.t 3))]),
  ⟨none, .store 3 (.t 2) (.t 4), none⟩] none)
 (.ret))
theorem fn112 : env0.fn 112 = some ⟨5, ic112, [.cell 2 (some 3)]⟩ := by kernel_rfl
theorem on112 (i : Int) : PF Try.prog 112 [.int .i64 i] (.agg (cX (.nd 1 i []))) := by
 refine zax env0_ok fn112 [(0, .int .i64 i)] (by show 1 ≤ 5; decide) rfl fun w0 N0 => ?_
 unfold ic112
 refine zsr rfl (zay (onu ?_))
 refine zsr rfl (za1 rfl (zhr rfl rfl (zah rfl rfl rfl rfl rfl rfl rfl (onu (zaf ?_)))))
 exact zae ⟨.inr rfl, _, rfl, rfl⟩
theorem on112t {w0 : World} {N0 : Nat} (i : Int) (H : HS) : CT Try.prog w0 N0 (.fn 112 [] []) [.int .i64 i] H fun v H' => v = .agg (cX (.nd 1 i [])) ∧ H' = H :=
 zi2 (znt (on112 i) fun h => Bool.noConfusion (show false = true from h))
-- pneumatic/pneumatictop.caseHomes$2
def ic113 : IC := .seq (.region [oM 3 (.alloc [.int .i64 0, .int .i64 0, .nils])] none)
 (.seq (.region [oN 4 1,
  oT 5 0,
  oM 6 (.call (.t 4) [(.t 5)]),
  oM 7 (.bslice 3 1 [.int .i64 0, .int .i64 0, .nils] [(0, 3, (.t 6))]),
  oM 8 (.build [.int .i64 0, .int .i64 0, .nils] [(0, 1, (.c (.int .i64 2))), (2, 1, (.t 7))]),
  ⟨none, .store 3 (.t 3) (.t 8), none⟩] none)
 (.ret))
theorem fn113 : env0.fn 113 = some ⟨9, ic113, [.cell 3 (some 3)]⟩ := by kernel_rfl
theorem not113 (i : Int) : PF Try.prog 113 [.int .i64 i, .vptr [.fn 112 [] []]] (.agg (cX (.nd 2 0 [.nd 1 i []]))) := by
 refine zax env0_ok fn113 [(0, .int .i64 i), (1, .vptr [.fn 112 [] []])] (by show 2 ≤ 9; decide) rfl fun w0 N0 => ?_
 unfold ic113
 refine zsr rfl (zay (onu ?_))
 refine zsr rfl (za6 rfl rfl (za1 rfl (zuk _ rfl rfl (on112t i _) (fun _ _ _ _ hm => absurd hm y0f) fun v H hF => ?_)))
 obtain ⟨e1, e2⟩ := hF
 subst e1 e2
 refine zck rfl rfl (zhr rfl rfl (zah rfl rfl rfl rfl rfl rfl rfl (onu ?_)))
 refine zf2 [(some (0, 0), [.int .i64 2, .int .i64 0, .vs (cXs [.nd 1 i []])])] [(1, 1, cX (.nd 1 i []))] [(3, .mptr 0 0 0)] rfl (.cons rfl rfl .nil) (.cons rfl (.cons (.same rfl) (.cons (.same rfl) (.cons (.fms rfl rfl (zfz _) ⟨[], by simp [cXs]⟩) .nil))) .nil) (.cons rfl (.mptr rfl) .nil) ?_
 refine zaf ?_
 exact zae ⟨.inr rfl, _, rfl, rfl⟩
theorem zzs {w0 : World} {N0 : Nat} (i : Int) (H : HS) : CT Try.prog w0 N0 (.fn 113 [] [.vptr [.fn 112 [] []]]) [.int .i64 i] H fun v H' => v = .agg (cX (.nd 2 0 [.nd 1 i []])) ∧ H' = H :=
 zi2 (znt (not113 i) fun h => Bool.noConfusion (show false = true from h))
end Go.Proofs.Ytoiblgbaeglgoaa
namespace Go.Am
open Go Go.RowKit
def zej (pres : List (List Nat)) (n : Nat) (done : List Nat) : List Nat := (List.range n).filter fun i => !done.contains i && (pres.getD i []).all fun p => done.contains p
def AllL (p : Nat → Prop) : List Nat → Prop
 | [] => True
 | i :: l => p i ∧ AllL p l
theorem AllL.mem {p : Nat → Prop} : ∀ {l : List Nat}, AllL p l → ∀ i ∈ l, p i
 | [], _, i, h => by cases h
 | j :: l, ⟨h1, h2⟩, i, h => by
  rcases y0l.1 h with rfl | h
  ·exact h1
  ·exact AllL.mem h2 i h
def AnyF (P : Program) (w0 : World) (N0 : Nat) (rd : Option (Nat × Nat)) (ios : List Opr) (pres : List (List Nat)) : Nat → List Nat → AS → (AS → Prop) → Prop
 | 0, done, S, K => zej pres ios.length done = [] ∧ K S
 | n + 1, done, S, K => zej pres ios.length done ≠ [] ∧ AllL (fun i => ∀ io, ios[i]? = some io → zco S.size io.dst = true ∧
   (
    (zaz S io = some false ∧ AnyF P w0 N0 rd ios pres n (i :: done) (S.put io.dst (.tup [])) K) ∨
    (zaz S io = some true ∧ ∃ Fk : AS → AV → Prop, Stp P w0 N0 rd io S Fk ∧ ∀ S1 v, Fk S1 v → zco S1.size io.dst = true ∧ AnyF P w0 N0 rd ios pres n (i :: done) (S1.put io.dst v) K))) (zej pres ios.length done)
section
variable {P : Program} {w0 w : World} {N0 : Nat} {I : LI} {S S' S1 : AS} {a : Act} {rd : Option (Nat × Nat)} {Q : Exit → AS → Prop}
theorem zjo {ios : List Opr} {pres : List (List Nat)} {ops : Array Oper} {listed : Array Bool} {done : List Nat} (hpr : pres = ziv ops) (hsz : ios.length = ops.size) (hlz : listed.size = ops.size) (hl : ∀ i, listed.getD i false = done.contains i) (i : Nat) :
  i ∈ Region.ready .any ops listed ↔ i ∈ zej pres ios.length done := by
 unfold zej
 rw [mem_ready, y1o, y10]
 constructor
 ·rintro ⟨hu, o, hoi, hpre⟩
  have hlt : i < ops.size := (y0b.1 hoi).1
  have hil : i < listed.size := by omega
  have hu' : listed.getD i false = false := by
   simp only [y03, y1q hil, y1c] at hu ⊢
   exact hu
  refine ⟨by omega, ?_⟩
  rw [y0g, ← hl, hu', y0e]
  refine ⟨rfl, fun p hp => ?_⟩
  have hp' : pres[i]? = some ((o.after.toList.filter (Region.binds .any ·)).map (·.on)) := by rw [hpr]; simp [ziv, hoi]
  rw [y08, hp', y1c] at hp
  obtain ⟨e, he, rfl⟩ := y0o.1 hp
  obtain ⟨he1, he2⟩ := y1o.1 he
  rw [← hl]
  exact hpre e (by simpa using he1) he2
 ·rintro ⟨hi, h⟩
  rw [y0g, ← hl, y0e] at h
  obtain ⟨h1, h2⟩ := h
  have hio' : i < ops.size := by omega
  have hil : i < listed.size := by omega
  refine ⟨?_, ops[i], by simp [hio'], fun e he hb => ?_⟩
  ·have h1 : listed.getD i false = false := by simpa using h1
   simp only [y03, y1q hil, y1c] at h1 ⊢
   exact h1
  ·have hp : pres[i]? = some ((ops[i].after.toList.filter (Region.binds .any ·)).map (·.on)) := by
    rw [hpr]; simp [ziv, hio']
   have := h2 e.on (by rw [y08, hp, y1c]; exact y0o.2 ⟨e, y1o.2 ⟨by simpa using he, hb⟩, rfl⟩)
   rw [← hl] at this
   exact this
theorem any_all {ios : List Opr} {pres : List (List Nat)} {ops : Array Oper} (hio : ops.toList.mapM (zia P ops) = some ios) (hpr : pres = ziv ops)
  {r : Option Nat} {n : Nat} {Qc : Exit → Act → World → Prop} {K : AS → Prop} : ∀ (m : Nat) (done : List Nat) (listed : Array Bool) (S : AS) (I : LI) (a : Act) (w : World) (fuel : Nat), m ≤ fuel → listed.size = ops.size → (∀ i, listed.getD i false = done.contains i) →
   Rel w0 N0 I S a w → RdOk I rd r → AnyF P w0 N0 rd ios pres m done S K → (∀ I' S' a' w', K S' → Rel w0 N0 I' S' a' w' → Evo I w I' w' → Qc .normal a' w') → wpAnyIn (Wd r) n P .any ops Qc fuel listed a w := by
 obtain ⟨hlen, hget⟩ := zim hio
 have hsz : ios.length = ops.size := by simpa using hlen
 intro m
 induction m with
 | zero =>
  intro done listed S I a w fuel _ hlz hl hR ho ⟨h1, hK⟩ hQ
  have hr : Region.ready .any ops listed = [] := by
   cases hr : Region.ready .any ops listed with
   | nil => rfl
   | cons i l =>
    have hi : i ∈ Region.ready .any ops listed := by rw [hr]; exact y05 ..
    rw [zjo hpr hsz hlz hl, h1] at hi
    cases hi
  cases fuel with
  | zero => exact ⟨hr, hQ I S a w hK hR (Evo.refl I w)⟩
  | succ fuel => exact ⟨fun _ => hQ I S a w hK hR (Evo.refl I w), fun i hi => by rw [hr] at hi; cases hi⟩
 | succ m ih =>
  intro done listed S I a w fuel hf hlz hl hR ho ⟨hne, hall⟩ hQ
  cases fuel with
  | zero => omega
  | succ fuel =>
   refine ⟨fun hr => ?_, fun i hi => ?_⟩
   ·exfalso
    cases hrl : zej pres ios.length done with
    | nil => exact hne hrl
    | cons i l =>
     have hi : i ∈ zej pres ios.length done := by rw [hrl]; exact y05 ..
     rw [← zjo hpr hsz hlz hl, hr] at hi
     cases hi
   ·have hi2 := (zjo hpr hsz hlz hl i).1 hi
    have hstep := hall.mem i hi2
    rw [mem_ready] at hi
    obtain ⟨hu, o, hoi, hpre⟩ := hi
    have hlt : i < ops.size := (y0b.1 hoi).1
    obtain ⟨io, hio1, hcom⟩ := hget i o (by rw [y1z]; exact hoi)
    obtain ⟨hok, hor⟩ := hstep io hio1
    have hdo : o.dst = io.dst := (zl4 hcom).1
    have hl' : ∀ k, (listed.setIfInBounds i true).getD k false = (i :: done).contains k := fun k => by
     rw [zf7 (by omega), hl, List.contains_cons]
     by_cases e : k = i
     ·subst e; simp
     ·simp [e]
    have hnext : ∀ (I' : LI) (S1 : AS) (v : AV) (u : Value) (w' : World), zco S1.size io.dst = true → AnyF P w0 N0 rd ios pres m (i :: done) (S1.put io.dst v) K → Rel w0 N0 I' S1 a w' → VRel w' I'.ro (some I') v u → Evo I w I' w' →
      wpAnyIn (Wd r) n P .any ops Qc fuel (listed.setIfInBounds i true) (a.put o.dst u) w' := fun I' S1 v u w' hok hA hR' hV hE => by
     rw [hdo]
     exact ih (i :: done) _ (S1.put io.dst v) I' _ w' fuel (by omega) (by simp [hlz]) hl' (hR'.put hok hV) (ho.evo hE) hA fun I'' S'' a'' w'' k x y => hQ I'' S'' a'' w'' k x (hE.trans y)
    unfold wpOpIn
    simp only [hoi]
    rcases hor with ⟨hw, hA⟩ | ⟨hw, Fk, hst, hk⟩
    ·rw [if_neg (by rw [zfx hR hcom hw]; simp)]
     exact ⟨fun _ _ => trivial, hnext I S (.tup []) undef w hok hA hR (.tup rfl (by simp)) (Evo.refl I w)⟩
    ·rw [if_pos (zfx hR hcom hw)]
     exact hst ops o hcom n I a w r _ Qc hR ho fun I' S1 v u w' hF hR' hV hE => hnext I' S1 v u w' (hk S1 v hF).1 (hk S1 v hF).2 hR' hV hE
theorem T_any (hm : P.follows .mixedOrders = true) {ios : List Opr} {pres : List (List Nat)} (h : AnyF P w0 N0 rd ios pres ios.length [] S fun S' => Q .normal S') : T P w0 N0 rd (.region ios (some pres)) S Q := fun code hcom n I a w r hr ho => by
 cases hcom with
 | @region id ops draw _ _ h1 hp =>
  cases draw with
  | false => simp at hp
  | true =>
   refine wpIn_region_any hm ?_
   obtain ⟨hlen, _⟩ := zim h1
   simp at hlen
   obtain ⟨k1, k2⟩ := hr.hrel.drew
   refine any_all h1 (by simpa using hp) ios.length [] _ S I a _ ops.size (by omega) (by simp) (fun i => by rw [ziy]; rfl) ⟨hr.clk, ⟨hr.tmps.1, fun d v hv => (hr.tmps.2 d v hv).evo k2⟩, k1, hr.marks⟩ ho h fun I' S' a' w' hK hR hE => ⟨I', S', hK, hR, k2.trans hE⟩
end
section
variable {P : Program} {w0 : World} {N0 : Nat} {rd : Option (Nat × Nat)} {ios : List Opr} {pres : List (List Nat)} {n nn nx nx' ck ck' i : Nat} {mk : List (Nat × Nat)} {done : List Nat} {K : AS → Prop} {l : List (Nat × AV)} {hp hp' : List (Nat × Nat × AObj)} {k : List Fr} {Q : Exit → AS → Prop} {md : Md}
abbrev StF (P : Program) (w0 : World) (N0 : Nat) (rd : Option (Nat × Nat)) (ios : List Opr) (pres : List (List Nat)) (n : Nat) (done : List Nat) (S : AS) (K : AS → Prop) (i : Nat) : Prop := ∀ io, ios[i]? = some io → zco S.size io.dst = true ∧
   (
    (zaz S io = some false ∧ AnyF P w0 N0 rd ios pres n (i :: done) (S.put io.dst (.tup [])) K) ∨
    (zaz S io = some true ∧ ∃ Fk : AS → AV → Prop, Stp P w0 N0 rd io S Fk ∧ ∀ S1 v, Fk S1 v → zco S1.size io.dst = true ∧ AnyF P w0 N0 rd ios pres n (i :: done) (S1.put io.dst v) K))
theorem AnyF.succ {S : AS} (h1 : zej pres ios.length done ≠ []) (h2 : AllL (StF P w0 N0 rd ios pres n done S K) (zej pres ios.length done)) : AnyF P w0 N0 rd ios pres (n + 1) done S K := ⟨h1, h2⟩
theorem AnyF.one {S : AS} (i : Nat) (h1 : zej pres ios.length done = [i]) (h2 : StF P w0 N0 rd ios pres n done S K i) : AnyF P w0 N0 rd ios pres (n + 1) done S K := ⟨by rw [h1]; simp, by rw [h1]; exact ⟨h2, trivial⟩⟩
theorem AnyF.fin {S : AS} (h1 : zej pres ios.length done = []) (h2 : K S) : AnyF P w0 N0 rd ios pres 0 done S K := ⟨h1, h2⟩
theorem af_op {d : Nat} {op : IOp} {v : AV} (hio : ios[i]? = some ⟨some d, op, none⟩) (hd : zco nn (some d) = true) (hi : iop (st nn l hp nx ck mk) op = some (v, st nn l hp' nx' ck' mk)) (go : AnyF P w0 N0 rd ios pres n (i :: done) (st nn ((d, v) :: l) hp' nx' ck' mk) K) : StF P w0 N0 rd ios pres n done (st nn l hp nx ck mk) K i := fun io h => by
 rw [hio] at h
 injection h with h
 subst h
 exact ⟨hd, .inr ⟨rfl, _, zme hi, fun S1 v1 ⟨e1, e2⟩ => by subst e1 e2; exact ⟨hd, go⟩⟩⟩
theorem zx1 {op : IOp} {v : AV} (hio : ios[i]? = some ⟨none, op, none⟩) (hi : iop (st nn l hp nx ck mk) op = some (v, st nn l hp' nx' ck' mk)) (go : AnyF P w0 N0 rd ios pres n (i :: done) (st nn l hp' nx' ck' mk) K) : StF P w0 N0 rd ios pres n done (st nn l hp nx ck mk) K i := fun io h => by
 rw [hio] at h
 injection h with h
 subst h
 exact ⟨rfl, .inr ⟨rfl, _, zme hi, fun S1 v1 ⟨e1, e2⟩ => by subst e1 e2; exact ⟨rfl, go⟩⟩⟩
theorem af_ct {d : Nat} {fa : Arg} {fv : AV} {args : List Arg} {vs : List AV} (F : AV → HS → Prop) (hio : ios[i]? = some ⟨some d, .call fa args, none⟩) (hd : zco nn (some d) = true) (hf : zbr fa l = some fv) (ha : zi4 args l = some vs) (hc : CT P w0 N0 fv vs ⟨hp, nx, ck⟩ F)
  (hm : ∀ v H, F v H → zdf mk H.heap) (go : ∀ v H, F v H → AnyF P w0 N0 rd ios pres n (i :: done) (st nn ((d, v) :: l) H.heap H.next H.clk mk) K) : StF P w0 N0 rd ios pres n done (st nn l hp nx ck mk) K i := fun io h => by
 rw [hio] at h
 injection h with h
 subst h
 refine ⟨hd, .inr ⟨rfl, fun S2 v2 => ∃ H, F v2 H ∧ S2 = (st nn l hp nx ck mk).withH H, zmd rfl ((zbk fa).trans hf) ((zjc args).trans ha) hc hm, fun S1 v1 h => ?_⟩⟩
 obtain ⟨H, hF, e⟩ := h
 subst e
 exact ⟨hd, go v1 H hF⟩
theorem z_any (hm : P.follows .mixedOrders = true) {S : AS} (h : ∀ rd, AnyF P w0 N0 rd ios pres ios.length [] S fun S' => unw P w0 N0 md k Q .normal S') : Zm P w0 N0 md (.region ios (some pres)) S k Q := ⟨zgl fun rd => T_any hm (h rd)⟩
end
end Go.Am
namespace Go.Proofs.Ytoiblgbaeglgoaa
open Go Go.Am
theorem zm1 {i : Nat} {D : List Nat} (hi : i ∉ D) : ∀ l : List Nat, l.Nodup → i ∈ l → (l.filter fun j => !D.contains j).length = (l.filter fun j => !(i :: D).contains j).length + 1
 | [], _, h => by cases h
 | j :: l, hn, h => by
  obtain ⟨h1, h2⟩ := List.nodup_cons.1 hn
  rw [y1n, y1n]
  by_cases e : j = i
  ·subst e
   have e1 : (!D.contains j) = true := by simpa using hi
   have e2 : (!(j :: D).contains j) = false := by simp
   rw [if_pos e1, if_neg (by rw [e2]; exact Bool.false_ne_true), y0m]
   congr 2
   refine List.filter_congr fun x hx => ?_
   have hx2 : x ≠ j := fun e => h1 (e ▸ hx)
   simp [hx2]
  ·have hm : i ∈ l := (y0l.1 h).resolve_left fun e2 => e e2.symm
   have ih := zm1 hi l h2 hm
   have e3 : (!(i :: D).contains j) = (!D.contains j) := by simp [e]
   rw [e3]
   split
   ·rw [y0m, y0m, ih]
   ·exact ih
theorem zwk {p : Nat → Prop} : ∀ {l : List Nat}, (∀ i ∈ l, p i) → AllL p l
 | [], _ => trivial
 | i :: _, h => ⟨h i (y05 ..), zwk fun j hj => h j (y04 _ hj)⟩
theorem zw4 {pres : List (List Nat)} {N : Nat} {D : List Nat} (hp : ∀ i < N, ∀ p ∈ pres.getD i [], p < i) (h : zej pres N D = []) : ∀ i < N, i ∈ D := by
 intro i
 induction i using Nat.strongRecOn with
 | ind i ih =>
  intro hi
  refine Classical.byContradiction fun hni => ?_
  have : i ∈ zej pres N D := by
   unfold zej
   rw [y1o]
   refine ⟨y10.2 hi, ?_⟩
   rw [y0g, y0e]
   refine ⟨by simpa using hni, fun p hpp => ?_⟩
   have := hp i hi p hpp
   exact y15.2 (ih p this (by omega))
  rw [h] at this
  cases this
theorem zx5 {P : Program} {w0 : World} {N0 : Nat} {rd : Option (Nat × Nat)} {ios : List Opr} {pres : List (List Nat)} {K : AS → Prop} (hp : ∀ i < ios.length, ∀ p ∈ pres.getD i [], p < i) (I : List Nat → AS → Prop)
  (step : ∀ n D S i, I D S → i < ios.length → i ∉ D → (∀ p ∈ pres.getD i [], p ∈ D) → (∀ S', I (i :: D) S' → AnyF P w0 N0 rd ios pres n (i :: D) S' K) → StF P w0 N0 rd ios pres n D S K i)
  (fin : ∀ D S, I D S → (∀ i < ios.length, i ∈ D) → K S) : ∀ (n : Nat) (D : List Nat) (S : AS), I D S → ((List.range ios.length).filter fun i => !D.contains i).length = n → AnyF P w0 N0 rd ios pres n D S K
 | 0, D, S, hI, hn => by
  have h0 := y1h.1 hn
  rw [List.filter_eq_nil_iff] at h0
  have hall : ∀ i < ios.length, i ∈ D := fun i hi => by
   have := h0 i (y10.2 hi)
   simpa using this
  refine ⟨?_, fin D S hI hall⟩
  unfold zej
  rw [List.filter_eq_nil_iff]
  intro i hi
  have := y15.2 (hall i (y10.1 hi))
  rw [this]
  simp
 | n + 1, D, S, hI, hn => by
  refine AnyF.succ (fun h => ?_) (zwk fun i hi => ?_)
  ·have hall := zw4 hp h
   rw [List.filter_eq_nil_iff.2 fun i hi => by
    have := y15.2 (hall i (y10.1 hi))
    rw [this]
    simp] at hn
   cases hn
  ·unfold zej at hi
   rw [y1o, y0g, y0e] at hi
   obtain ⟨h1, h2, h3⟩ := hi
   have h2 : i ∉ D := by simpa using h2
   refine step n D S i hI (y10.1 h1) h2 (fun p hp => y15.1 (h3 p hp)) fun S' hI' => zx5 hp I step fin n (i :: D) S' hI' ?_
   have := zm1 h2 (List.range ios.length) List.nodup_range h1
   omega
theorem zzk (d : Nat) (v : AV) (l : List (Nat × AV)) : zbs d ((d, v) :: l) = some v := by
 rw [zbs, Nat.beq_refl]
theorem zn1 {d t : Nat} (h : d ≠ t) (v : AV) (l : List (Nat × AV)) : zbs t ((d, v) :: l) = zbs t l := by
 rw [zbs]
 cases hb : Nat.beq d t with
 | true => exact absurd (y0v hb) h
 | false => rfl
def Lk (base : List (Nat × AV)) (dv : Nat → Option (Nat × AV)) (D : List Nat) (l : List (Nat × AV)) : Prop :=
 (∀ t v, (t, v) ∈ base → zbs t l = some v) ∧ ∀ j d v, dv j = some (d, v) → j ∈ D → zbs d l = some v
theorem Lk.add {base : List (Nat × AV)} {dv dv' : Nat → Option (Nat × AV)} {D : List Nat} {l : List (Nat × AV)} {i d : Nat} {v : AV} (h : Lk base dv D l) (hi : dv' i = some (d, v)) (hb : ∀ t v, (t, v) ∈ base → d ≠ t) (hs : ∀ j, j ∈ D → j ≠ i → dv' j = dv j) (hd : ∀ j e w, j ≠ i → dv' j = some (e, w) → d ≠ e) (hni : i ∉ D) :
  Lk base dv' (i :: D) ((d, v) :: l) := by
 refine ⟨fun t w ht => by rw [zn1 (hb t w ht)]; exact h.1 t w ht, fun j e w hj hm => ?_⟩
 by_cases hji : j = i
 ·subst hji
  rw [hi] at hj
  injection hj with hj
  injection hj with h1 h2
  subst h1 h2
  exact zzk ..
 ·rw [zn1 (hd j e w hji hj)]
  have hm2 : j ∈ D := (y0l.1 hm).resolve_left hji
  exact h.2 j e w (by rw [← hs j hm2 hji]; exact hj) hm2
def zix : List Opr := [oT 11 2,
  oM 12 (.call (.t 11) [(.c (.int .i64 0))]),
  oT 13 2,
  oM 14 (.call (.t 13) [(.c (.int .i64 1))]),
  oN 15 1,
  oM 16 (.call (.t 15) [(.c (.int .i64 2))]),
  oM 17 (.bslice 3 3 [.int .i64 0, .int .i64 0, .nils, .int .i64 0, .int .i64 0, .nils, .int .i64 0, .int .i64 0, .nils] [(0, 3, (.t 12)), (3, 3, (.t 14)), (6, 3, (.t 16))]),
  oM 18 (.build [.int .i64 0, .int .i64 0, .nils] [(0, 1, (.c (.int .i64 3))), (2, 1, (.t 17))]),
  oM 19 (.bslice 3 1 [.int .i64 0, .int .i64 0, .nils] [(0, 3, (.t 18))]),
  oM 20 (.build [.nils] [(0, 1, (.t 19))]),
  oM 3 (.alloc [.nils]),
  ⟨none, .store 1 (.t 3) (.t 20), none⟩]
def reg63p : List (List Nat) := [[], [0], [], [2, 1], [], [4, 3], [1, 3, 5], [6], [7], [8], [], [10, 9, 5, 0, 1, 2, 3, 4, 5, 6, 7, 8, 9, 10]]
def n63 (i : Int) : Ex := .nd 2 0 [.nd 1 i []]
def x63 : Ex := .nd 3 0 [n63 0, n63 1, .nd 1 2 []]
def f112 : AV := .fn 112 [] []
def f113 : AV := .fn 113 [] [.vptr [.fn 112 [] []]]
def t63 : List (Nat × AV) := [(2, f113), (1, .vptr [f112]), (0, .bool false)]
def zwf (m6 m8 m10 : AV) : Nat → Option (Nat × AV)
 | 0 => some (11, f113)
 | 1 => some (12, .agg (cX (n63 0)))
 | 2 => some (13, f113)
 | 3 => some (14, .agg (cX (n63 1)))
 | 4 => some (15, f112)
 | 5 => some (16, .agg (cX (.nd 1 2 [])))
 | 6 => some (17, m6)
 | 7 => some (18, .agg [.int .i64 3, .int .i64 0, m6])
 | 8 => some (19, m8)
 | 9 => some (20, .agg [m8])
 | 10 => some (3, m10)
 | _ => none
def ztt : Nat → Nat
 | 10 => 3
 | j => 11 + j
theorem dv63_dst {m6 m8 m10 : AV} : ∀ {j e : Nat} {w : AV}, zwf m6 m8 m10 j = some (e, w) → e = ztt j ∧ j < 11
 | 0, _, _, h | 1, _, _, h | 2, _, _, h | 3, _, _, h | 4, _, _, h | 5, _, _, h | 6, _, _, h | 7, _, _, h | 8, _, _, h | 9, _, _, h | 10, _, _, h => by
  injection h with h
  injection h with h1 h2
  exact ⟨h1.symm, by decide⟩
 | j + 11, _, _, h => by cases h
theorem dd63_ne {i j : Nat} (hi : i < 11) (hj : j < 11) (h : j ≠ i) : ztt i ≠ ztt j := by
 have : ∀ a < 11, ∀ b < 11, b ≠ a → ztt a ≠ ztt b := by decide
 exact this i hi j hj h
def C9 : List AV := cX (n63 0) ++ cX (n63 1) ++ cX (.nd 1 2 [])
def C3 (i s : Nat) : List AV := [.int .i64 3, .int .i64 0, .ms i s 3 0 3 (some 3)]
def ms3 (i s : Nat) : AV := .ms i s 3 0 3 (some 3)
def ms1 (i s : Nat) : AV := .ms i s 3 0 1 (some 1)
inductive Ph63 : Bool → Bool → Bool → Bool → List (Nat × Nat × AObj) → Nat → Nat → AV → AV → AV → Prop where
 | p0 (m6 m8 m10) : Ph63 false false false false [] 0 1 m6 m8 m10
 | pA (m6 m8) : Ph63 false false true false [(0, 1, .cells [.nils])] 1 2 m6 m8 (.mptr 0 1 0)
 | p6 (m8 m10) : Ph63 true false false false [(0, 1, .cells C9)] 1 2 (ms3 0 1) m8 m10
 | pA6 (m8) : Ph63 true false true false [(1, 2, .cells C9), (0, 1, .cells [.nils])] 2 3 (ms3 1 2) m8 (.mptr 0 1 0)
 | p6A (m8) : Ph63 true false true false [(1, 2, .cells [.nils]), (0, 1, .cells C9)] 2 3 (ms3 0 1) m8 (.mptr 1 2 0)
 | p68 (m10) : Ph63 true true false false [(1, 2, .cells (C3 0 1)), (0, 1, .cells C9)] 2 3 (ms3 0 1) (ms1 1 2) m10
 | pA68 : Ph63 true true true false [(2, 3, .cells (C3 1 2)), (1, 2, .cells C9), (0, 1, .cells [.nils])] 3 4 (ms3 1 2) (ms1 2 3) (.mptr 0 1 0)
 | p6A8 : Ph63 true true true false [(2, 3, .cells (C3 0 1)), (1, 2, .cells [.nils]), (0, 1, .cells C9)] 3 4 (ms3 0 1) (ms1 2 3) (.mptr 1 2 0)
 | p68A : Ph63 true true true false [(2, 3, .cells [.nils]), (1, 2, .cells (C3 0 1)), (0, 1, .cells C9)] 3 4 (ms3 0 1) (ms1 1 2) (.mptr 2 3 0)
 | qA68 : Ph63 true true true true [(2, 3, .cells (C3 1 2)), (1, 2, .cells C9), (0, 1, .cells [ms1 2 3])] 3 4 (ms3 1 2) (ms1 2 3) (.mptr 0 1 0)
 | q6A8 : Ph63 true true true true [(2, 3, .cells (C3 0 1)), (1, 2, .cells [ms1 2 3]), (0, 1, .cells C9)] 3 4 (ms3 0 1) (ms1 2 3) (.mptr 1 2 0)
 | q68A : Ph63 true true true true [(2, 3, .cells [ms1 1 2]), (1, 2, .cells (C3 0 1)), (0, 1, .cells C9)] 3 4 (ms3 0 1) (ms1 1 2) (.mptr 2 3 0)
theorem zcv {i j : Nat} {D : List Nat} (h : j ≠ i) : (i :: D).contains j = D.contains j := by simp [h]
theorem zmq {i : Nat} {D : List Nat} : (i :: D).contains i = true := by simp
def Cl63 (D : List Nat) : Prop := ∀ q ∈ D, ∀ p ∈ reg63p.getD q [], p ∈ D
theorem Cl63.add {D : List Nat} {j : Nat} (h : Cl63 D) (hpre : ∀ p ∈ reg63p.getD j [], p ∈ D) : Cl63 (j :: D) := fun q hq p hp => by
 rcases y0l.1 hq with rfl | hq
 ·exact y04 _ (hpre p hp)
 ·exact y04 _ (h q hq p hp)
def zwo (D : List Nat) (S : AS) : Prop :=
 ∃ l hp nx ck m6 m8 m10, S = st 51 l hp nx ck ∧ Lk t63 (zwf m6 m8 m10) D l ∧ Cl63 D ∧ Ph63 (D.contains 6) (D.contains 8) (D.contains 10) (D.contains 11) hp nx ck m6 m8 m10
theorem zgn {j : Nat} (hj : j < 11) : ∀ t v, (t, v) ∈ t63 → ztt j ≠ t := fun t v h => by
 unfold t63 at h
 simp only [y0l, y0a, y0f, or_false] at h
 have : ∀ k < 11, 3 ≤ ztt k := by decide
 have := this j hj
 omega
theorem dn63 {m6 m8 m10 : AV} {j : Nat} (hj : j < 11) : ∀ (q e : Nat) (w : AV), q ≠ j → zwf m6 m8 m10 q = some (e, w) → ztt j ≠ e := fun q e w hq he => by
 obtain ⟨e1, e2⟩ := dv63_dst he
 rw [e1]
 exact dd63_ne hj e2 hq
theorem zqy {P : Program} {w0 : World} {N0 : Nat} {rd : Option (Nat × Nat)} {K : AS → Prop} {m : Nat} {D : List Nat} {l : List (Nat × AV)} {hp : List (Nat × Nat × AObj)} {nx ck : Nat} {m6 m8 m10 v : AV} {op : IOp} (j : Nat) (hj : j < 11) (h6 : 6 ≠ j) (h8 : 8 ≠ j) (h10 : 10 ≠ j)
  (hL : Lk t63 (zwf m6 m8 m10) D l) (hD : Cl63 D) (hpre : ∀ p ∈ reg63p.getD j [], p ∈ D) (hP : Ph63 (D.contains 6) (D.contains 8) (D.contains 10) (D.contains 11) hp nx ck m6 m8 m10) (hni : j ∉ D)
  (hv : zwf m6 m8 m10 j = some (ztt j, v)) (hio : zix[j]? = some ⟨some (ztt j), op, none⟩) (hok : zco 51 (some (ztt j)) = true) (hi : iop (st 51 l hp nx ck) op = some (v, st 51 l hp nx ck))
  (go : ∀ S', zwo (j :: D) S' → AnyF P w0 N0 rd zix reg63p m (j :: D) S' K) : StF P w0 N0 rd zix reg63p m D (st 51 l hp nx ck) K j :=
 af_op hio hok hi (go _ ⟨_, _, _, _, m6, m8, m10, rfl, hL.add hv (zgn hj) (fun _ _ _ => rfl) (dn63 hj) hni, hD.add hpre, by rw [zcv h6, zcv h8, zcv h10, zcv (by omega)]; exact hP⟩)
theorem zxu {P : Program} {w0 : World} {N0 : Nat} {rd : Option (Nat × Nat)} {K : AS → Prop} {m : Nat} {D : List Nat} {l : List (Nat × AV)} {hp : List (Nat × Nat × AObj)} {nx ck : Nat} {m6 m8 m10 v fv : AV} {fa : Arg} {args : List Arg} {vs : List AV} (j : Nat) (hj : j < 11) (h6 : 6 ≠ j) (h8 : 8 ≠ j) (h10 : 10 ≠ j)
  (hL : Lk t63 (zwf m6 m8 m10) D l) (hD : Cl63 D) (hpre : ∀ p ∈ reg63p.getD j [], p ∈ D) (hP : Ph63 (D.contains 6) (D.contains 8) (D.contains 10) (D.contains 11) hp nx ck m6 m8 m10) (hni : j ∉ D)
  (hv : zwf m6 m8 m10 j = some (ztt j, v)) (hio : zix[j]? = some ⟨some (ztt j), .call fa args, none⟩) (hok : zco 51 (some (ztt j)) = true) (hf : zbr fa l = some fv) (ha : zi4 args l = some vs) (hc : CT P w0 N0 fv vs ⟨hp, nx, ck⟩ fun u H' => u = v ∧ H' = ⟨hp, nx, ck⟩)
  (go : ∀ S', zwo (j :: D) S' → AnyF P w0 N0 rd zix reg63p m (j :: D) S' K) : StF P w0 N0 rd zix reg63p m D (st 51 l hp nx ck) K j :=
 af_ct _ hio hok hf ha hc (fun _ _ _ _ h => absurd h y0f) fun u H' hF => by
  obtain ⟨e1, e2⟩ := hF
  subst e1 e2
  exact go _ ⟨_, _, _, _, m6, m8, m10, rfl, hL.add hv (zgn hj) (fun _ _ _ => rfl) (dn63 hj) hni, hD.add hpre, by rw [zcv h6, zcv h8, zcv h10, zcv (by omega)]; exact hP⟩
set_option maxHeartbeats 2000000 in
theorem step63 {w0 : World} {N0 : Nat} {rd : Option (Nat × Nat)} {K : AS → Prop} (m : Nat) (D : List Nat) (S : AS) (j : Nat) (hI : zwo D S) (hj : j < 12) (hni : j ∉ D) (hpre : ∀ p ∈ reg63p.getD j [], p ∈ D)
  (go : ∀ S', zwo (j :: D) S' → AnyF Try.prog w0 N0 rd zix reg63p m (j :: D) S' K) : StF Try.prog w0 N0 rd zix reg63p m D S K j := by
 obtain ⟨l, hp, nx, ck, m6, m8, m10, rfl, hL, hD, hP⟩ := hI
 have b1 : zbs 1 l = some (.vptr [f112]) := hL.1 _ _ (by unfold t63; simp)
 have b2 : zbs 2 l = some f113 := hL.1 _ _ (by unfold t63; simp)
 have pr : ∀ q d v, zwf m6 m8 m10 q = some (d, v) → q ∈ D → zbs d l = some v := hL.2
 match j, hj, hni, hpre, go with
 | 0, _, hni, hpre, go => exact zqy 0 (by decide) (by decide) (by decide) (by decide) hL hD hpre hP hni rfl rfl rfl (g_mov b2) go
 | 2, _, hni, hpre, go => exact zqy 2 (by decide) (by decide) (by decide) (by decide) hL hD hpre hP hni rfl rfl rfl (g_mov b2) go
 | 4, _, hni, hpre, go => exact zqy 4 (by decide) (by decide) (by decide) (by decide) hL hD hpre hP hni rfl rfl rfl (zyv b1 rfl) go
 | 1, _, hni, hpre, go => exact zxu 1 (by decide) (by decide) (by decide) (by decide) hL hD hpre hP hni rfl rfl rfl (pr 0 11 _ rfl (hpre 0 (by decide))) rfl (zzs 0 _) go
 | 3, _, hni, hpre, go => exact zxu 3 (by decide) (by decide) (by decide) (by decide) hL hD hpre hP hni rfl rfl rfl (pr 2 13 _ rfl (hpre 2 (by decide))) rfl (zzs 1 _) go
 | 5, _, hni, hpre, go => exact zxu 5 (by decide) (by decide) (by decide) (by decide) hL hD hpre hP hni rfl rfl rfl (pr 4 15 _ rfl (hpre 4 (by decide))) rfl (on112t 2 _) go
 | 7, _, hni, hpre, go =>
  have h6 := pr 6 17 _ rfl (hpre 6 (by decide))
  have e6 : D.contains 6 = true := y15.2 (hpre 6 (by decide))
  have hc : ∃ i s, m6 = ms3 i s := by
   rw [e6] at hP
   generalize D.contains 8 = b8 at *
   generalize D.contains 10 = b10 at *
   generalize D.contains 11 = b11 at *
   cases hP <;> exact ⟨_, _, rfl⟩
  obtain ⟨i, s, rfl⟩ := hc
  exact zqy 7 (by decide) (by decide) (by decide) (by decide) hL hD hpre hP hni rfl rfl rfl (zs5 (pl := [(0, .int .i64 3), (2, ms3 i s)]) (by simp only [zfs, zbr, h6]; rfl) rfl) go
 | 9, _, hni, hpre, go =>
  have h8 := pr 8 19 _ rfl (hpre 8 (by decide))
  have e8 : D.contains 8 = true := y15.2 (hpre 8 (by decide))
  have hc : ∃ i s, m8 = ms1 i s := by
   rw [e8] at hP
   generalize D.contains 6 = b6 at *
   generalize D.contains 10 = b10 at *
   generalize D.contains 11 = b11 at *
   cases hP <;> exact ⟨_, _, rfl⟩
  obtain ⟨i, s, rfl⟩ := hc
  exact zqy 9 (by decide) (by decide) (by decide) (by decide) hL hD hpre hP hni rfl rfl rfl (zs5 (pl := [(0, ms1 i s)]) (by simp only [zfs, zbr, h8]; rfl) rfl) go
 | 6, _, hni, hpre, go =>
  have h1 := pr 1 12 _ rfl (hpre 1 (by decide))
  have h3 := pr 3 14 _ rfl (hpre 3 (by decide))
  have h5 := pr 5 16 _ rfl (hpre 5 (by decide))
  have e6 : D.contains 6 = false := by simpa using hni
  rw [e6] at hP
  refine af_op (i := 6) rfl rfl (zof (pl := [(0, .agg (cX (n63 0))), (3, .agg (cX (n63 1))), (6, .agg (cX (.nd 1 2 [])))]) (cs := C9) (by simp only [zfs, zbr, h1, h3, h5]; rfl) rfl) (go _ ⟨_, _, _, _, ms3 nx ck, m8, m10, rfl, hL.add (i := 6) (dv' := zwf (ms3 nx ck) m8 m10) rfl (zgn (j := 6) (by decide)) (fun q hq hq6 => ?_) (dn63 (j := 6) (by decide)) hni, hD.add hpre, ?_⟩)
  ·match q, hq6, hq with
   | 0, _, _ | 1, _, _ | 2, _, _ | 3, _, _ | 4, _, _ | 5, _, _ | 8, _, _ | 9, _, _ | 10, _, _ => rfl
   | 6, h, _ => exact absurd rfl h
   | 7, _, h => exact absurd (hD 7 h 6 (by decide)) hni
   | q + 11, _, _ => rfl
  rw [zmq, zcv (by decide), zcv (by decide), zcv (by decide)]
  generalize D.contains 8 = b8 at *
  generalize D.contains 10 = b10 at *
  generalize D.contains 11 = b11 at *
  cases hP with
  | p0 => exact .p6 _ _
  | pA => exact .pA6 _
 | 8, _, hni, hpre, go =>
  have h7 := pr 7 18 _ rfl (hpre 7 (by decide))
  have e6 : D.contains 6 = true := y15.2 (hD 7 (hpre 7 (by decide)) 6 (by decide))
  have e8 : D.contains 8 = false := by simpa using hni
  rw [e6, e8] at hP
  have hc : ∃ i s, m6 = ms3 i s := by
   generalize D.contains 10 = b10 at *
   generalize D.contains 11 = b11 at *
   cases hP <;> exact ⟨_, _, rfl⟩
  obtain ⟨i, s, rfl⟩ := hc
  refine af_op (i := 8) rfl rfl (zof (pl := [(0, .agg (C3 i s))]) (cs := C3 i s) (by simp only [zfs, zbr, h7]; rfl) rfl) (go _ ⟨_, _, _, _, ms3 i s, ms1 nx ck, m10, rfl, hL.add (i := 8) (dv' := zwf (ms3 i s) (ms1 nx ck) m10) rfl (zgn (j := 8) (by decide)) (fun q hq hq6 => ?_) (dn63 (j := 8) (by decide)) hni, hD.add hpre, ?_⟩)
  ·match q, hq6, hq with
   | 0, _, _ | 1, _, _ | 2, _, _ | 3, _, _ | 4, _, _ | 5, _, _ | 6, _, _ | 7, _, _ | 10, _, _ => rfl
   | 8, h, _ => exact absurd rfl h
   | 9, _, h => exact absurd (hD 9 h 8 (by decide)) hni
   | q + 11, _, _ => rfl
  rw [zmq, zcv (by decide), zcv (by decide), zcv (by decide), e6]
  generalize D.contains 10 = b10 at *
  generalize D.contains 11 = b11 at *
  cases hP with
  | p6 => exact .p68 _
  | pA6 => exact .pA68
  | p6A => exact .p6A8
 | 10, _, hni, hpre, go =>
  have e10 : D.contains 10 = false := by simpa using hni
  rw [e10] at hP
  refine af_op (i := 10) rfl rfl zyq (go _ ⟨_, _, _, _, m6, m8, .mptr nx ck 0, rfl, hL.add (i := 10) (dv' := zwf m6 m8 (.mptr nx ck 0)) rfl (zgn (j := 10) (by decide)) (fun q hq hq6 => ?_) (dn63 (j := 10) (by decide)) hni, hD.add hpre, ?_⟩)
  ·match q, hq6 with
   | 0, _ | 1, _ | 2, _ | 3, _ | 4, _ | 5, _ | 6, _ | 7, _ | 8, _ | 9, _ => rfl
   | 10, h => exact absurd rfl h
   | q + 11, _ => rfl
  rw [zmq, zcv (by decide), zcv (by decide), zcv (by decide)]
  generalize D.contains 6 = b6 at *
  generalize D.contains 8 = b8 at *
  generalize D.contains 11 = b11 at *
  cases hP with
  | p0 => exact .pA _ _
  | p6 => exact .p6A _
  | p68 => exact .p68A
 | 11, _, hni, hpre, go =>
  have h3 := pr 10 3 _ rfl (hpre 10 (by decide))
  have h20 := pr 9 20 _ rfl (hpre 9 (by decide))
  have e6 : D.contains 6 = true := y15.2 (hpre 6 (by decide))
  have e8 : D.contains 8 = true := y15.2 (hpre 8 (by decide))
  have e10 : D.contains 10 = true := y15.2 (hpre 10 (by decide))
  have e11 : D.contains 11 = false := by simpa using hni
  have hL2 : Lk t63 (zwf m6 m8 m10) (11 :: D) l := ⟨hL.1, fun q d v hq hm => by
   rcases y0l.1 hm with rfl | hm
   ·cases hq
   ·exact hL.2 q d v hq hm⟩
  rw [e6, e8, e10, e11] at hP
  cases hP with
  | pA68 =>
   exact zx1 (i := 11) rfl (zog (id := 0) (sp := 1) (off := 0) h3 h20 rfl rfl rfl rfl rfl) (go _ ⟨_, _, _, _, _, _, _, rfl, hL2, hD.add hpre, by
    rw [zcv (by decide), zcv (by decide), zcv (by decide), zmq, e6, e8, e10]
    exact .qA68⟩)
  | p6A8 =>
   exact zx1 (i := 11) rfl (zog (id := 1) (sp := 2) (off := 0) h3 h20 rfl rfl rfl rfl rfl) (go _ ⟨_, _, _, _, _, _, _, rfl, hL2, hD.add hpre, by
    rw [zcv (by decide), zcv (by decide), zcv (by decide), zmq, e6, e8, e10]
    exact .q6A8⟩)
  | p68A =>
   exact zx1 (i := 11) rfl (zog (id := 2) (sp := 3) (off := 0) h3 h20 rfl rfl rfl rfl rfl) (go _ ⟨_, _, _, _, _, _, _, rfl, hL2, hD.add hpre, by
    rw [zcv (by decide), zcv (by decide), zcv (by decide), zmq, e6, e8, e10]
    exact .q68A⟩)
 | j + 12, hj, _, _, _ => exact absurd hj (by omega)
theorem region63 {w0 : World} {N0 : Nat} {k : List Fr} {Q : Exit → AS → Prop} {y : IC}
  (fin : Zm Try.prog w0 N0 none y (st 51 ((3, .vptr [.vs (cXs [x63])]) :: t63) [] 0 1) k Q) :
  Zm Try.prog w0 N0 none (.region zix (some reg63p)) (st 51 t63 [] 0 1) (.seq y :: k) Q := by
 refine z_any env0_ok.mix fun rd => zx5 (by decide) zwo (fun m D S j hI hj hni hpre go => step63 m D S j hI hj hni hpre go) (fun D S hI hall => Um.ok ?_) 12 [] _ ⟨_, _, _, _, .nils, .nils, .nils, rfl, ⟨fun t v h => ?_, fun _ _ _ _ h => by cases h⟩, fun _ h => absurd h y0f, .p0 _ _ _⟩ rfl
 ·obtain ⟨l, hp, nx, ck, m6, m8, m10, rfl, hL, hD, hP⟩ := hI
  rw [y15.2 (hall 6 (by decide)), y15.2 (hall 8 (by decide)), y15.2 (hall 10 (by decide)), y15.2 (hall 11 (by decide))] at hP
  have h3 := hL.2 10 3 _ rfl (hall 10 (by decide))
  have b0 : zbs 0 l = some (.bool false) := hL.1 _ _ (by unfold t63; simp)
  have b1 : zbs 1 l = some (.vptr [f112]) := hL.1 _ _ (by unfold t63; simp)
  have b2 : zbs 2 l = some f113 := hL.1 _ _ (by unfold t63; simp)
  refine za8 ?_
  cases hP with
  | qA68 =>
   refine zf2 [(some (2, 3), [.int .i64 3, .int .i64 0, .vs (cXs [n63 0, n63 1, .nd 1 2 []])]), (some (0, 1), [.ms 0 0 3 0 1 (some 1)])] [(1, 2, C9)] ((3, .mptr 1 0 0) :: t63) rfl (.cons rfl rfl .nil) (.cons rfl (.cons (.same rfl) (.cons (.same rfl) (.cons (.fms rfl rfl (zfz _) ⟨[], rfl⟩) .nil))) (.cons rfl (.cons (.ms rfl) .nil) .nil)) (.cons h3 (.mptr rfl) (.cons b2 (.same rfl) (.cons b1 (.same rfl) (.cons b0 (.same rfl) .nil)))) ?_
   refine zf2 [(some (1, 0), [.vs (cXs [x63])])] [(0, 0, cX x63)] ((3, .mptr 0 0 0) :: t63) rfl (.cons rfl rfl .nil) (.cons rfl (.cons (.fms rfl rfl (zfz _) ⟨[], rfl⟩) .nil) .nil) (.cons rfl (.mptr rfl) (.cons rfl (.same rfl) (.cons rfl (.same rfl) (.cons rfl (.same rfl) .nil)))) ?_
   exact zf2 [] [(0, 0, [.vs (cXs [x63])])] ((3, .vptr [.vs (cXs [x63])]) :: t63) rfl (.cons rfl rfl .nil) .nil (.cons rfl (.fptr rfl rfl) (.cons rfl (.same rfl) (.cons rfl (.same rfl) (.cons rfl (.same rfl) .nil)))) fin
  | q6A8 =>
   refine zf2 [(some (2, 3), [.int .i64 3, .int .i64 0, .vs (cXs [n63 0, n63 1, .nd 1 2 []])]), (some (1, 2), [.ms 0 0 3 0 1 (some 1)])] [(0, 1, C9)] ((3, .mptr 1 0 0) :: t63) rfl (.cons rfl rfl .nil) (.cons rfl (.cons (.same rfl) (.cons (.same rfl) (.cons (.fms rfl rfl (zfz _) ⟨[], rfl⟩) .nil))) (.cons rfl (.cons (.ms rfl) .nil) .nil)) (.cons h3 (.mptr rfl) (.cons b2 (.same rfl) (.cons b1 (.same rfl) (.cons b0 (.same rfl) .nil)))) ?_
   refine zf2 [(some (1, 0), [.vs (cXs [x63])])] [(0, 0, cX x63)] ((3, .mptr 0 0 0) :: t63) rfl (.cons rfl rfl .nil) (.cons rfl (.cons (.fms rfl rfl (zfz _) ⟨[], rfl⟩) .nil) .nil) (.cons rfl (.mptr rfl) (.cons rfl (.same rfl) (.cons rfl (.same rfl) (.cons rfl (.same rfl) .nil)))) ?_
   exact zf2 [] [(0, 0, [.vs (cXs [x63])])] ((3, .vptr [.vs (cXs [x63])]) :: t63) rfl (.cons rfl rfl .nil) .nil (.cons rfl (.fptr rfl rfl) (.cons rfl (.same rfl) (.cons rfl (.same rfl) (.cons rfl (.same rfl) .nil)))) fin
  | q68A =>
   refine zf2 [(some (1, 2), [.int .i64 3, .int .i64 0, .vs (cXs [n63 0, n63 1, .nd 1 2 []])]), (some (2, 3), [.ms 0 0 3 0 1 (some 1)])] [(0, 1, C9)] ((3, .mptr 1 0 0) :: t63) rfl (.cons rfl rfl .nil) (.cons rfl (.cons (.same rfl) (.cons (.same rfl) (.cons (.fms rfl rfl (zfz _) ⟨[], rfl⟩) .nil))) (.cons rfl (.cons (.ms rfl) .nil) .nil)) (.cons h3 (.mptr rfl) (.cons b2 (.same rfl) (.cons b1 (.same rfl) (.cons b0 (.same rfl) .nil)))) ?_
   refine zf2 [(some (1, 0), [.vs (cXs [x63])])] [(0, 0, cX x63)] ((3, .mptr 0 0 0) :: t63) rfl (.cons rfl rfl .nil) (.cons rfl (.cons (.fms rfl rfl (zfz _) ⟨[], rfl⟩) .nil) .nil) (.cons rfl (.mptr rfl) (.cons rfl (.same rfl) (.cons rfl (.same rfl) (.cons rfl (.same rfl) .nil)))) ?_
   exact zf2 [] [(0, 0, [.vs (cXs [x63])])] ((3, .vptr [.vs (cXs [x63])]) :: t63) rfl (.cons rfl rfl .nil) .nil (.cons rfl (.fptr rfl rfl) (.cons rfl (.same rfl) (.cons rfl (.same rfl) (.cons rfl (.same rfl) .nil)))) fin
 ·unfold t63 at *
  simp only [y0l, y0a, y0f, or_false] at h
  rcases h with ⟨rfl, rfl⟩ | ⟨rfl, rfl⟩ | ⟨rfl, rfl⟩ <;> rfl
def s63 : List Sp := [⟨[⟨1, true⟩], 0⟩, ⟨[⟨0, true⟩], 0⟩, ⟨[⟨1, false⟩], 0⟩, ⟨[⟨0, false⟩], 0⟩]
theorem slim63 : ∀ y ∈ [x63], Slim y := fun y hy => by
 obtain rfl := y0i.1 hy
 refine .nd (by decide) fun y hy => ?_
 simp only [y0l, y0f, or_false] at hy
 rcases hy with rfl | rfl | rfl
 ·exact .nd (by decide) fun y hy => by
   obtain rfl := y0i.1 hy
   exact .nd (by decide) (fun _ h => by cases h)
 ·exact .nd (by decide) fun y hy => by
   obtain rfl := y0i.1 hy
   exact .nd (by decide) (fun _ h => by cases h)
 ·exact .nd (by decide) (fun _ h => by cases h)
def l63 : List Sk := zih [x63] 2 (zn0 [x63] 2) 3 1
theorem fv63 : zvp [x63] [true, false] = .tup [.vs (cSs l63), .int .i64 0] := by
 have h1 : zc0 [x63] [true, false].length = 0 := by decide
 have h2 : zds [x63] (zdn [true, false]) = true := by decide
 have h3 : (zn0 [x63] [true, false].length).getD (zcy [true, false]) 0 = 3 := by decide
 have h4 : zcy [true, false] = 1 := by decide
 unfold zvp l63
 rw [if_pos h1, if_pos h2, h3, h4]
 rfl
theorem dt63 : dgT [x63] 2 s63 = (3, [3, 0], true) := by decide
theorem dc63 : dgC [x63] 2 s63 = 0 := by decide
theorem dg63 : dgV [x63] 2 s63 = .tup [.int .i64 3, vsI [3, 0], .bool true, .int .i64 0] := by
 unfold dgV
 rw [dt63, dc63]
theorem ya0 : PF Try.prog 114 [.str [66, 43, 59, 32, 65, 43, 59, 32, 66, 45, 59, 32, 65, 45]] (.agg (cQ 2 s63)) :=
 zpv (env0_ok) (n := 80) (by kernel_rfl)
theorem find63 : PF Try.prog 37 [.agg [.vs (cXs [x63])], vsB [true, false]] (.tup [.vs (cSs l63), .int .i64 0]) := by
 have := find37 [x63] slim63 [true, false] fun _ => by decide
 rwa [fv63] at this
theorem dang63 : PF Try.prog 18 [.agg [.vs (cXs [x63])], .agg (cQ 2 s63)] (.tup [.int .i64 3, vsI [3, 0], .bool true, .int .i64 0]) := by
 have := zts [x63] slim63 2 s63 (by decide) fun _ => by decide
 rwa [dg63] at this
-- pneumatic/pneumatictop.caseHomes
def ic63 : IC := .seq (.region [oM 0 (.mov (.c (.bool false)))] none)
 (.seq (.region [oM 1 (.alloc [.nilf]),
  ⟨none, .store 1 (.t 1) (.c (.fn 112 [] [])), none⟩] none)
 (.seq (.region [oM 10 (.mkfn 113 [] [(.t 1)]),
  oT 2 10] none)
 (.seq (.region [oT 11 2,
  oM 12 (.call (.t 11) [(.c (.int .i64 0))]),
  oT 13 2,
  oM 14 (.call (.t 13) [(.c (.int .i64 1))]),
  oN 15 1,
  oM 16 (.call (.t 15) [(.c (.int .i64 2))]),
  oM 17 (.bslice 3 3 [.int .i64 0, .int .i64 0, .nils, .int .i64 0, .int .i64 0, .nils, .int .i64 0, .int .i64 0, .nils] [(0, 3, (.t 12)), (3, 3, (.t 14)), (6, 3, (.t 16))]),
  oM 18 (.build [.int .i64 0, .int .i64 0, .nils] [(0, 1, (.c (.int .i64 3))), (2, 1, (.t 17))]),
  oM 19 (.bslice 3 1 [.int .i64 0, .int .i64 0, .nils] [(0, 3, (.t 18))]),
  oM 20 (.build [.nils] [(0, 1, (.t 19))]),
  oM 3 (.alloc [.nils]),
  ⟨none, .store 1 (.t 3) (.t 20), none⟩] (some [[], [0], [], [2, 1], [], [4, 3], [1, 3, 5], [6], [7], [8], [], [10, 9, 5, 0, 1, 2, 3, 4, 5, 6, 7, 8, 9, 10]]))
 (.seq (.region [oL 22 1 3,
  oM 23 (.bslice 1 2 [.bool false, .bool false] [(0, 1, (.c (.bool true))), (1, 1, (.c (.bool false)))]),
  oM 24 (.call (.c (.fn 37 [] [])) [(.t 22), (.t 23)]),
  oT 21 24,
  oM 25 (.extract (.t 21) 0),
  oM 26 (.extract (.t 21) 1),
  oT 4 25,
  oT 5 26] none)
 (.seq (.region [oL 28 1 3,
  oM 29 (.call (.c (.fn 114 [] [])) [(.c (.str [66, 43, 59, 32, 65, 43, 59, 32, 66, 45, 59, 32, 65, 45]))]),
  oM 30 (.call (.c (.fn 18 [] [])) [(.t 28), (.t 29)]),
  oT 27 30,
  oM 31 (.extract (.t 27) 0),
  oM 32 (.extract (.t 27) 1),
  oM 33 (.extract (.t 27) 2),
  oM 34 (.extract (.t 27) 3),
  oT 6 31,
  oT 7 32,
  oT 8 33,
  oT 9 34] (some [[], [], [0, 1, 1], [2], [3], [3], [3], [3], [4, 2, 0, 1, 2, 3, 4], [5, 8, 0, 1, 2, 3, 4, 5, 8], [6, 9, 0, 1, 2, 3, 4, 5, 6, 8, 9], [7, 10, 0, 1, 2, 3, 4, 5, 6, 7, 8, 9, 10]]))
 (.seq (.region [oT 35 5,
  oT 36 9,
  oM 37 (.bin .add (.t 35) (.t 36)),
  oM 38 (.bin .eql (.t 37) (.c (.int .i64 0))),
  oT 39 38,
  ⟨(some 40), .mov (.t 4), some (39, true)⟩,
  ⟨(some 41), .len false (.t 40), some (39, true)⟩,
  ⟨(some 42), .bin .eql (.t 41) (.c (.int .i64 3)), some (39, true)⟩,
  oM 43 (.pick (.t 39) (.t 42) (.c (.bool false))),
  oT 44 43,
  ⟨(some 45), .mov (.t 8), some (44, true)⟩,
  oM 46 (.pick (.t 44) (.t 45) (.c (.bool false))),
  oT 47 46,
  ⟨(some 48), .mov (.t 6), some (47, true)⟩,
  ⟨(some 49), .bin .eql (.t 48) (.c (.int .i64 3)), some (47, true)⟩,
  oM 50 (.pick (.t 47) (.t 49) (.c (.bool false))),
  oT 0 50] none)
 (.ret)))))))
theorem fn63 : env0.fn 63 = some ⟨51, ic63, [.t 0]⟩ := by kernel_rfl
theorem zsm {f g : FuncId} {args bs : List AV} {v w : AV} {l : List (FuncId × List AV × AV)} (h : g ≠ f) (k : ze3 l f args = some w) : ze3 ((g, bs, v) :: l) f args = some w := by
 simp [ze3, h, k]
theorem zs7 : PF Try.prog 63 [] (.bool true) := by
 refine zax env0_ok fn63 [] (by show 0 ≤ 51; decide) rfl fun w0 N0 => ?_
 unfold ic63
 refine zsr rfl (za1 rfl (onu ?_))
 refine zsr rfl (zay (zah rfl rfl rfl rfl rfl rfl rfl (onu ?_)))
 refine zf2 [] [(0, 0, [f112])] [(1, .vptr [f112]), (0, .bool false)] rfl (.cons rfl rfl .nil) .nil (.cons rfl (.fptr rfl rfl) (.cons rfl (.same rfl) .nil)) ?_
 refine zsr rfl (zgw rfl rfl (za1 rfl (onu ?_)))
 refine zf2 [] [] t63 rfl .nil .nil (.cons rfl (.same rfl) (.cons rfl (.same rfl) (.cons rfl (.same rfl) .nil))) ?_
 refine za7 (region63 ?_)
 refine zsr rfl ?_
 refine zal rfl rfl rfl rfl (zck rfl rfl ?_)
 refine zp2 0 1 [(22, .agg [.vs (cXs [x63])]), (23, vsB [true, false]), (3, .vptr [.vs (cXs [x63])])] rfl rfl (.cons rfl .same (.cons rfl (.fms1 (vs := [.bool true, .bool false]) rfl) (.cons rfl .same .nil))) ?_
 refine zas rfl rfl find63 noC ?_
 refine za1 rfl (zc7 rfl rfl (zc7 rfl rfl (za1 rfl (za1 rfl (onu (za7 ?_))))))
 refine zfl env0_ok [(114, [.str [66, 43, 59, 32, 65, 43, 59, 32, 66, 45, 59, 32, 65, 45]], .agg (cQ 2 s63)), (18, [.agg [.vs (cXs [x63])], .agg (cQ 2 s63)], .tup [.int .i64 3, vsI [3, 0], .bool true, .int .i64 0])] (fun x hx => by
  simp only [y0l, y0f, or_false] at hx
  rcases hx with rfl | rfl
  ·exact ya0
  ·exact dang63) (fun f => Nat.beq f 114 || Nat.beq f 18) rfl rfl rfl ?_
 refine zal rfl rfl rfl rfl ?_
 refine zas rfl rfl zbn noC ?_
 refine zas rfl rfl (zsm (by decide) zbn) noC ?_
 repeat (first | refine za7 ?_ | refine za5 rfl ?_ | refine zai ?_ | refine za8 ?_ | refine zaf ?_ | refine zbc rfl ?_ | refine za1 rfl ?_ | refine zau rfl rfl ?_ | refine zbb rfl rfl ?_ | refine zc7 rfl rfl ?_ | refine zb3 (op := .add) rfl rfl rfl ?_ | refine zc6 rfl rfl rfl ?_)
 exact zae ⟨.inr rfl, _, rfl, rfl⟩
end Go.Proofs.Ytoiblgbaeglgoaa
