/-
  DANGERS: guard.Danger.; POSITIONS OF STEPS, in plain Lean (as D3, without right guards: beside H18).; ENDS OF FEW ACTUATORS: their positions, their index, and back: known calls, run by the kernel.; A STROKE THAT IS PERMITTED: homing.allowed, homing.may.; THE STROKES THAT ARE PERMITTED: homing.bits, homing.moves, homing.Permitted.; THE STROKES THAT ARE PERMITTED: the reference's Moves, and Permitte
-/
import Derived.Test.YtoiblgbaeglgoaaJX6
namespace Go.Proofs.Ytoiblgbaeglgoaa
open Go Go.Am
def ownZ : List (List AV × List AV) := [1, 2, 3, 4].map fun n => ([vsI [0], .int .i64 ((n : Nat) : Int)], (List.replicate n 0).map (AV.int .i64))
theorem zot : zqh Try.prog (env0.tab [] []) 80 81 some ownZ = true := by kernel_rfl
theorem rep0 {n : Nat} (h1 : 1 ≤ n) (h4 : n ≤ 4) : PFo Try.prog 81 [vsI [0], .int .i64 ((n : Nat) : Int)] 1 n (some n) ((List.replicate n 0).map (AV.int .i64)) := by
 rcases (show n = 1 ∨ n = 2 ∨ n = 3 ∨ n = 4 by omega) with rfl | rfl | rfl | rfl
 ·exact ze1 (env0_ok.tab TabOk.nil) zot _ (y05 ..)
 ·exact ze1 (env0_ok.tab TabOk.nil) zot _ (y04 _ (y05 ..))
 ·exact ze1 (env0_ok.tab TabOk.nil) zot _ (y04 _ (y04 _ (y05 ..)))
 ·exact ze1 (env0_ok.tab TabOk.nil) zot _ (y04 _ (y04 _ (y04 _ (y05 ..))))
theorem zy0 (m : Nat) : enE (List.replicate m false) = List.replicate m 0 := List.map_replicate ..
theorem zl5 : ∀ l : List Int, flat.flatL (l.map (AV.int .i64)) = true
 | [] => rfl
 | z :: l => by
  have := zl5 l
  show (flat _ && flat.flatL _) = true
  rw [this]
  rfl
theorem zn5 {S : AS} {a b c d : Nat} {pa pb pc pd va vb vc vd : AV} {ra rb rc rd : List AV} (h1 : S.get a = some pa) (d1 : S.deref pa = some (va :: ra)) (h2 : S.get b = some pb) (d2 : S.deref pb = some (vb :: rb)) (h3 : S.get c = some pc) (d3 : S.deref pc = some (vc :: rc)) (h4 : S.get d = some pd) (d4 : S.deref pd = some (vd :: rd)) :
  S.res [.cell a none, .cell b none, .cell c none, .cell d none] = some (.tup [va, vb, vc, vd]) := by
 simp [AS.res, AS.resL, zs7, h1, h2, h3, h4, d1, d2, d3, d4]
theorem zg0 : ∀ (ms : List (Nat × Nat)) (hp : List (Nat × Nat × AObj)) (k : Nat), (∀ z ∈ ms, z.1 ≠ k) → Am.look k (zhf ms hp) = Am.look k hp
 | [], _, _, _ => rfl
 | z :: ms, hp, k, h => by
  rw [zps, zg0 ms _ k fun y hy => h y (y04 _ hy), za3, if_neg (h z (y05 ..))]
def J18s (f : List Ex) (m : Nat) (l : List Sp) (mm : Nat) (S : AS) : Prop := ∃ i q, mm = l.length - i ∧ i ≤ l.length ∧ dgS f 0 (List.replicate m false) l = dgS f i (zgy (List.replicate m false) (l.take i)) (l.drop i) ∧
 S = st 97 [(2, .vptr [.vs (cXs f)]), (3, .vptr [.int .i64 (m : Nat), .vs (cPs l)]), (4, .mptr 0 0 0), (5, .mptr 1 0 0), (6, .mptr 2 0 0), (7, .mptr 3 0 0), (10, .ms 4 0 1 0 m (some m)), (38, .vs (cPs l)), (39, .int .i64 (cPs l).length), (40, .int .i64 (i : Nat))] (zc5 0 (lv5 (zgy (List.replicate m false) (l.take i))) ++ zc8 5 q) (q + 5) 1 (zdz 5 q)
section
variable {w0 : World} {N0 : Nat} {k : List Fr} {Q : Exit → AS → Prop}
set_option maxHeartbeats 4000000 in
theorem round18 {f : List Ex} (hsl : ∀ y ∈ f, Slim y) {m : Nat} (hg : zcc f m = 0) (m4 : m ≤ 4) {l : List Sp} (ok : SeqOk m l) (mm : Nat) (S : AS) (hJ : J18s f m l mm S)
  (fin : ∀ l' hp nx ck mk, dgS f 0 (List.replicate m false) l = (0, [], false) → zbn 4 l' = some (.mptr 0 0 0) → zbn 5 l' = some (.mptr 1 0 0) → zbn 6 l' = some (.mptr 2 0 0) → zbn 7 l' = some (.mptr 3 0 0) → 5 ≤ nx → (∀ z ∈ mk, 5 ≤ z.1) → Am.look 0 hp = some (0, .cells [.int .i64 0]) → Am.look 1 hp = some (0, .cells [.nils]) → Am.look 2 hp = some (0, .cells [.bool false]) → Am.look 3 hp = some (0, .cells [.int .i64 0]) → Um Try.prog w0 N0 none (.exit 0) (st 97 l' hp nx ck mk) k Q)
  (ret : ∀ l' (i : Nat) p hp nx ck mk, dgS f 0 (List.replicate m false) l = ((i : Int), p, true) → zbn 4 l' = some (.mptr 0 0 0) → zbn 5 l' = some (.mptr 1 0 0) → zbn 6 l' = some (.mptr 2 0 0) → zbn 7 l' = some (.mptr 3 0 0) → 5 ≤ nx → (∀ z ∈ mk, 5 ≤ z.1) → Am.look 0 hp = some (0, .cells [.int .i64 (i : Nat)]) → Am.look 1 hp = some (0, .cells [vsI p]) → Am.look 2 hp = some (0, .cells [.bool true]) → Am.look 3 hp = some (0, .cells [.int .i64 0]) → Um Try.prog w0 N0 none .ret (st 97 l' hp nx ck mk) k Q) :
  Zm Try.prog w0 N0 none b18_0 S [] (zm6 w0 N0 none (J18s f m l) mm (unw Try.prog w0 N0 none k Q)) := by
 obtain ⟨i, q, rfl, hi, hall, rfl⟩ := hJ
 have l64 := ok.l64
 have hcl : (cPs l).length = l.length := zfh l
 unfold b18_0
 refine zsr rfl ?_
 refine zaq rfl rfl rfl (fun h3 => ?_) fun h3 => ?_
 ·have hlt : i < l.length := by
   have := of_decide_eq_true h3
   rw [hcl] at this
   omega
  have hst := ok.step hlt
  have hEl := SeqOk.behLen (n := m) (l := l) i
  have htk := zko (E := List.replicate m false) hlt
  rw [dgS_step (n := m) (List.replicate m false) (y11 ..) hlt] at hall
  have hfit := zy6 hst (by rw [hEl])
  have hstat := hst.stat (by rw [hEl])
  rw [hEl] at hfit hstat
  have hq := hst.len
  have h1 := ok.n1
  have hg' := zrh hlt
  generalize hE : zgy (List.replicate m false) (l.take i) = E at *
  generalize hE2 : zgy (List.replicate m false) (l.take (i + 1)) = E2 at *
  generalize l[i] = p at *
  obtain ⟨sk, w⟩ := p
  have hg' : (cPs l)[((i : Nat) : Int).toNat]? = some [.vs (cSs sk), .int .i64 w] := hg'
  have hfit : Fit18 m (chA E) (List.replicate m (some 1)) E sk := hfit
  have hstat : chS (chA E) sk = zfp E (aft E sk) sk m := hstat
  have htk : E2 = aft E sk := htk
  have hq : sk.length ≤ 6 := hq
  have hall : dgS f 0 (List.replicate m false) l = match badP f (zeh (zfp E (aft E sk) sk m)) with
   | some q => ((i : Int), q, true)
   | none => dgS f (i + 1) E2 (l.drop (i + 1)) := hall
  refine onu (za8 (zb4 rfl (zab (zaa (za8 (zac (zsr rfl (za1 rfl (zbh rfl rfl (by omega) (by assumption) rfl (zam rfl rfl rfl rfl (zau ?_)))))))))))
  refine zau ?_
  refine zad (sp := 1) rfl rfl rfl rfl (by (repeat (first | rw [za0, if_neg (by omega)] | rw [za0, if_pos rfl] | rw [za2, if_neg (by omega)] | rw [za2, if_pos rfl])); try rfl) rfl rfl ?_
  refine zad (sp := 2) rfl rfl rfl rfl (by (repeat (first | rw [za0, if_neg (by omega)] | rw [za0, if_pos rfl] | rw [za2, if_neg (by omega)] | rw [za2, if_pos rfl])); try rfl) rfl rfl ?_
  refine onu ?_
  refine zq (zaj q 5) [(some (0, 0), [.int .i64 0]), (some (1, 0), [.nils]), (some (2, 0), [.bool false]), (some (3, 0), [.int .i64 0]), (some (4, 0), (enE E).map (AV.int .i64))] [(q + 5, 1, [.int .i64 (i : Nat)]), (q + 5 + 1, 2, [.vs (cSs sk), .int .i64 w])] [(2, .vptr [.vs (cXs f)]), (3, .vptr [.int .i64 (m : Nat), .vs (cPs l)]), (4, .mptr 0 0 0), (5, .mptr 1 0 0), (6, .mptr 2 0 0), (7, .mptr 3 0 0), (10, .ms 4 0 1 0 m (some m)), (38, .vs (cPs l)), (39, .int .i64 (cPs l).length), (40, .int .i64 (i : Nat)), (11, .vptr [.int .i64 (i : Nat)]), (12, .vptr [.vs (cSs sk), .int .i64 w])] rfl (.cons (by (repeat (first | rw [za0, if_neg (by omega)] | rw [za0, if_pos rfl] | rw [za2, if_neg (by omega)] | rw [za2, if_pos rfl])); try rfl) rfl (.cons (by (repeat (first | rw [za0, if_neg (by omega)] | rw [za0, if_pos rfl] | rw [za2, if_neg (by omega)] | rw [za2, if_pos rfl])); try rfl) rfl .nil)) (.cons (by (repeat (first | rw [za0, if_neg (by omega)] | rw [za0, if_pos rfl] | rw [za2, if_neg (by omega)] | rw [za2, if_pos rfl])); try rfl) (.keep rfl) (.cons (by (repeat (first | rw [za0, if_neg (by omega)] | rw [za0, if_pos rfl] | rw [za2, if_neg (by omega)] | rw [za2, if_pos rfl])); try rfl) (.keep rfl) (.cons (by (repeat (first | rw [za0, if_neg (by omega)] | rw [za0, if_pos rfl] | rw [za2, if_neg (by omega)] | rw [za2, if_pos rfl])); try rfl) (.keep rfl) (.cons (by (repeat (first | rw [za0, if_neg (by omega)] | rw [za0, if_pos rfl] | rw [za2, if_neg (by omega)] | rw [za2, if_pos rfl])); try rfl) (.keep rfl) (.cons (by (repeat (first | rw [za0, if_neg (by omega)] | rw [za0, if_pos rfl] | rw [za2, if_neg (by omega)] | rw [za2, if_pos rfl])); try rfl) (.keep (zah _)) .nil))))) (.cons rfl (.same rfl) (.cons rfl (.same rfl) (.cons rfl (.mptr rfl) (.cons rfl (.mptr rfl) (.cons rfl (.mptr rfl) (.cons rfl (.mptr rfl) (.cons rfl (.ms rfl) (.cons rfl (.same rfl) (.cons rfl (.same rfl) (.cons rfl (.same rfl) (.cons rfl (.fptr (by simp [fzl]) rfl) (.cons rfl (.fptr (by simp [fzl, show Nat.beq 1 2 = false from rfl]) rfl) .nil)))))))))))) ?_
  refine zxl f m l i sk hq w E m hEl h1 m4 q hfit ?_
  rw [hstat, ← htk]
  rw [← htk] at hall
  have hrow := zpq (zfp E E2 sk m)
  rw [zgs] at hrow
  have hCl := zgs E E2 sk m
  have hCn : ∀ c ∈ zfp E E2 sk m, c ≠ [] ∧ c.length ≤ 3 := statL_ne
  generalize zfp E E2 sk m = C at *
  have hmk0 : zdd (zdz 5 q) (zc5 0 (lv5 E2) ++ zc8 5 q) := fun z hz => by
   obtain ⟨z1, z2, z3⟩ := zh5 hz
   show Am.look z.1 ((0, _) :: (1, _) :: (2, _) :: (3, _) :: (4, _) :: zc8 5 q) = _
   rw [za2, if_neg (by omega), za2, if_neg (by omega), za2, if_neg (by omega), za2, if_neg (by omega), za2, if_neg (by omega), zh3, if_pos ⟨z1, z2⟩, z3]
  refine zsr rfl (za1 rfl ?_)
  refine zap rfl rfl (comb52 C) noC ?_ hmk0
  refine onu (zac ?_)
  refine zq (zaj q 5) [(some (0, 0), [.int .i64 0]), (some (1, 0), [.nils]), (some (2, 0), [.bool false]), (some (3, 0), [.int .i64 0]), (some (4, 0), (enE E2).map (AV.int .i64))] [] (l18 f m l m i (.fn 130 [] [.vptr [css C]])) rfl .nil (.cons (by (repeat (first | rw [za0, if_neg (by omega)] | rw [za0, if_pos rfl] | rw [za2, if_neg (by omega)] | rw [za2, if_pos rfl])); try rfl) (.keep rfl) (.cons (by (repeat (first | rw [za0, if_neg (by omega)] | rw [za0, if_pos rfl] | rw [za2, if_neg (by omega)] | rw [za2, if_pos rfl])); try rfl) (.keep rfl) (.cons (by (repeat (first | rw [za0, if_neg (by omega)] | rw [za0, if_pos rfl] | rw [za2, if_neg (by omega)] | rw [za2, if_pos rfl])); try rfl) (.keep rfl) (.cons (by (repeat (first | rw [za0, if_neg (by omega)] | rw [za0, if_pos rfl] | rw [za2, if_neg (by omega)] | rw [za2, if_pos rfl])); try rfl) (.keep rfl) (.cons (by (repeat (first | rw [za0, if_neg (by omega)] | rw [za0, if_pos rfl] | rw [za2, if_neg (by omega)] | rw [za2, if_pos rfl])); try rfl) (.keep (zah _)) .nil))))) (.cons rfl (.same rfl) (.cons rfl (.same rfl) (.cons rfl (.same rfl) (.cons rfl (.mptr rfl) (.cons rfl (.mptr rfl) (.cons rfl (.mptr rfl) (.cons rfl (.mptr rfl) (.cons rfl (.ms rfl) (.cons rfl (.same rfl) (.cons rfl (.same rfl) (.cons rfl (.same rfl) (.cons rfl (.same rfl) .nil)))))))))))) ?_
  show Zm _ _ _ _ _ (st _ _ _ (q + 5) 1 (zdz 5 q)) _ _
  refine zgu (.inl rfl) rfl fun hA hB => (range80 (local18 (D := q + 5) (by omega) (enE E2) (l18 f m l m i (.fn 130 [] [.vptr [css C]]))) (fun s p H hp h => yield18 (D := q + 5) (by omega) hsl hg m l i (.fn 130 [] [.vptr [css C]]) (enE E2) hA hB s p H hp h) C (by omega) (fun c hc => ⟨(hCn c hc).1, by have := (hCn c hc).2; omega⟩) ⟨_, _, _⟩ () ?_ (zkm _ _ hrow)).mono fun v H2 hF => ?_
  ·refine ⟨y0c _, ?_, ?_, ?_, ?_, ?_, ?_, ?_⟩
   ·exact zar
   ·exact (zaz (y0k _)).trans zar
   ·show Am.look 0 ((q + 5 + 1, _) :: (q + 5, _) :: (0, _) :: _) = _
    exact (by (repeat (first | rw [za2, if_pos rfl] | rw [za2, if_neg (by omega)])); try rfl)
   ·show Am.look 1 ((q + 5 + 1, _) :: (q + 5, _) :: (0, _) :: (1, _) :: _) = _
    exact (by (repeat (first | rw [za2, if_pos rfl] | rw [za2, if_neg (by omega)])); try rfl)
   ·show Am.look 2 ((q + 5 + 1, _) :: (q + 5, _) :: (0, _) :: (1, _) :: (2, _) :: _) = _
    exact (by (repeat (first | rw [za2, if_pos rfl] | rw [za2, if_neg (by omega)])); try rfl)
   ·show Am.look 3 ((q + 5 + 1, _) :: (q + 5, _) :: (0, _) :: (1, _) :: (2, _) :: (3, _) :: _) = _
    exact (by (repeat (first | rw [za2, if_pos rfl] | rw [za2, if_neg (by omega)])); try rfl)
   ·show Am.look 4 ((q + 5 + 1, _) :: (q + 5, _) :: (0, _) :: (1, _) :: (2, _) :: (3, _) :: (4, _) :: _) = _
    exact (by (repeat (first | rw [za2, if_pos rfl] | rw [za2, if_neg (by omega)])); try rfl)
  obtain ⟨hK, hF⟩ := hF
  rw [zmm] at hF
  have hold : ∀ z ∈ zdz 5 q, Am.look z.1 H2.heap = some (z.2, .deferred) := fun z hz => by
   obtain ⟨z1, z2, z3⟩ := zh5 hz
   refine (hK.look z.1 (fun h => by rcases h with h | h | h <;> omega) (by show z.1 < q + 5 + 2; omega)).trans ?_
   show Am.look z.1 ((q + 5 + 1, _) :: (q + 5, _) :: (0, _) :: (1, _) :: (2, _) :: (3, _) :: (4, _) :: zc8 5 q) = _
   rw [za2, if_neg (by omega), za2, if_neg (by omega), za2, if_neg (by omega), za2, if_neg (by omega), za2, if_neg (by omega), za2, if_neg (by omega), za2, if_neg (by omega), zh3, if_pos ⟨z1, z2⟩, z3]
  have hmk : Am.look (q + 5) H2.heap = some (1, .deferred) → zdd ((q + 5, 1) :: zdz 5 q) (zbe (q + 5 + 1) H2.heap) := fun h1 z hz => by
   rcases y0m.1 hz with rfl | hz
   ·rw [za3, if_neg (by omega)]; exact h1
   ·have := zh5 hz
    rw [za3, if_neg (by omega)]; exact hold z hz
  cases hb : badP f (zeh C) with
  | none =>
   rw [hb] at hF hall
   obtain ⟨nx, h4, h3, r0, r1, r2, r3, he⟩ := hF
   refine ⟨_, _, .normal, _, _, _, _, _, _, h4, by simp, rfl, hmk h3, ?_⟩
   refine zb7 (zb7 (zaa ?_))
   refine zq (q := q + 1) (by rw [y0n, zaj]) [(some (0, 0), [.int .i64 0]), (some (1, 0), [.nils]), (some (2, 0), [.bool false]), (some (3, 0), [.int .i64 0]), (some (4, 0), (enE E2).map (AV.int .i64))] [] [(2, .vptr [.vs (cXs f)]), (3, .vptr [.int .i64 (m : Nat), .vs (cPs l)]), (4, .mptr 0 0 0), (5, .mptr 1 0 0), (6, .mptr 2 0 0), (7, .mptr 3 0 0), (10, .ms 4 0 1 0 m (some m)), (38, .vs (cPs l)), (39, .int .i64 (cPs l).length), (40, .int .i64 (i : Nat))] rfl .nil (.cons (by (repeat (first | rw [za0, if_pos rfl] | rw [za0, if_neg (by omega)] | rw [za3, if_neg (by omega)])); all_goals (first | rfl | assumption)) (.keep rfl) (.cons (by (repeat (first | rw [za0, if_pos rfl] | rw [za0, if_neg (by omega)] | rw [za3, if_neg (by omega)])); all_goals (first | rfl | assumption)) (.keep rfl) (.cons (by (repeat (first | rw [za0, if_pos rfl] | rw [za0, if_neg (by omega)] | rw [za3, if_neg (by omega)])); all_goals (first | rfl | assumption)) (.keep rfl) (.cons (by (repeat (first | rw [za0, if_pos rfl] | rw [za0, if_neg (by omega)] | rw [za3, if_neg (by omega)])); all_goals (first | rfl | assumption)) (.keep rfl) (.cons (by (repeat (first | rw [za0, if_pos rfl] | rw [za0, if_neg (by omega)] | rw [za3, if_neg (by omega)])); all_goals (first | rfl | assumption)) (.keep (zah _)) .nil))))) (.cons rfl (.same rfl) (.cons rfl (.same rfl) (.cons rfl (.mptr rfl) (.cons rfl (.mptr rfl) (.cons rfl (.mptr rfl) (.cons rfl (.mptr rfl) (.cons rfl (.ms rfl) (.cons rfl (.same rfl) (.cons rfl (.same rfl) (.cons rfl (.same rfl) .nil)))))))))) ?_
   refine za5 rfl (zb6 (op := .add) rfl rfl rfl (za1 rfl (zai ?_)))
   rw [zas i (by omega)]
   exact zav (show l.length - (i + 1) < l.length - i by omega) (zan (.cons rfl (.cons rfl (.cons rfl (.cons rfl (.cons rfl (.cons rfl (.cons rfl (.cons rfl (.cons rfl (.cons rfl .nil))))))))))) ⟨i + 1, q + 1, rfl, hlt, hall.trans (by rw [hE2]), by rw [hE2]; rfl⟩
  | some p =>
   rw [hb] at hF hall
   obtain ⟨nx, ⟨tm, h4⟩, h3, r0, r1, r2, r3⟩ := hF
   refine ⟨_, _, .ret, _, _, _, _, _, _, h4, by simp, rfl, hmk h3, ?_⟩
   refine zag (zag (za4 ?_))
   refine zbb ?_
   refine ret _ i p _ _ _ _ hall rfl rfl rfl rfl (by omega) (fun z hz => ?_) (by (repeat (first | rw [za0, if_pos rfl] | rw [za0, if_neg (by omega)] | rw [za3, if_neg (by omega)])); all_goals (first | rfl | assumption)) (by (repeat (first | rw [za0, if_pos rfl] | rw [za0, if_neg (by omega)] | rw [za3, if_neg (by omega)])); all_goals (first | rfl | assumption)) (by (repeat (first | rw [za0, if_pos rfl] | rw [za0, if_neg (by omega)] | rw [za3, if_neg (by omega)])); all_goals (first | rfl | assumption)) (by (repeat (first | rw [za0, if_pos rfl] | rw [za0, if_neg (by omega)] | rw [za3, if_neg (by omega)])); all_goals (first | rfl | assumption))
   rcases y0m.1 hz with rfl | hz
   ·show 5 ≤ q + 5; omega
   ·exact (zh5 hz).1
 ·have hi2 : i = l.length := by
   have := of_decide_eq_false h3
   rw [hcl] at this
   omega
  subst hi2
  rw [y0s, dgS] at hall
  refine onu (za8 (zb8 rfl (zbm (zao ?_))))
  refine zcn ?_
  exact fin _ _ _ _ _ hall rfl rfl rfl rfl (by omega) (fun z hz => (zh5 hz).1) rfl rfl rfl rfl
set_option maxHeartbeats 4000000 in
theorem zth (f : List Ex) (hsl : ∀ y ∈ f, Slim y) (n : Int) (l : List Sp) (hl : l.length ≤ 1000000) (hn : zte n l = 0 → n ≤ 4) : PF Try.prog 18 [.agg [.vs (cXs f)], .agg (cQ n l)] (dgV f n l) := by
 have hcl : (cPs l).length = l.length := zfh l
 have p1 := seq72 n l hl
 rw [zxj] at p1
 have p1 : PF Try.prog 72 [.agg [.int .i64 n, .vs (cPs l)]] (.int .i64 (zte n l)) := p1
 have p2 := zo5 f hsl n
 refine zb1 env0_ok fn18 [(0, .agg [.vs (cXs f)]), (1, .agg [.int .i64 n, .vs (cPs l)])] (by show 2 ≤ 97; decide) rfl fun w0 N0 => ?_
 unfold ic18 dgV
 repeat (first | refine za8 ?_ | refine za5 rfl ?_ | refine zai ?_ | refine zaa ?_ | refine zam rfl rfl rfl rfl ?_ | refine zau ?_ | refine zc1 rfl rfl ?_)
 refine zap rfl rfl p1 noC ?_
 refine za1 rfl (onr rfl (za1 rfl ?_))
 refine zaq rfl rfl rfl (fun h => ?_) fun h => ?_
 ·have h : zte n l ≠ 0 := bne_iff_ne.1 h
  rw [show dgT f n l = (0, [], false) from if_neg h, show dgC f n l = zte n l from if_neg h]
  repeat (first | refine za8 ?_ | refine za5 rfl ?_ | refine zai ?_ | refine zaa ?_ | refine zb4 rfl ?_ | refine zak ?_ | refine za4 ?_ | refine za1 rfl ?_ | refine zad rfl rfl rfl rfl rfl rfl rfl ?_)
  exact zaf ⟨.inr rfl, _, rfl, rfl⟩
 have h : zte n l = 0 := by simpa using h
 refine onu (zb8 rfl (zab (zaa (za8 (zsr rfl (zam rfl rfl rfl rfl (za9 rfl (za7 rfl rfl ?_))))))))
 refine zap rfl rfl p2 noC ?_
 refine za1 rfl (onr rfl (za1 rfl ?_))
 have hC : dgC f n l = zcc f n := if_pos h
 rw [hC]
 refine zaq rfl rfl rfl (fun h2 => ?_) fun h2 => ?_
 ·have h2 : zcc f n ≠ 0 := bne_iff_ne.1 h2
  rw [show dgT f n l = (0, [], false) from (if_pos h).trans (if_neg h2)]
  repeat (first | refine za8 ?_ | refine za5 rfl ?_ | refine zai ?_ | refine zaa ?_ | refine zb4 rfl ?_ | refine zak ?_ | refine za4 ?_ | refine za1 rfl ?_ | refine zad rfl rfl rfl rfl rfl rfl rfl ?_)
  exact zaf ⟨.inr rfl, _, rfl, rfl⟩
 have h2 : zcc f n = 0 := by simpa using h2
 rw [show dgT f n l = dgS f 0 (List.replicate n.toNat false) l from (if_pos h).trans (if_pos h2), h2]
 have hn := hn h
 obtain ⟨m, rfl, ok⟩ := chk_ok h
 have m1 := ok.n1
 have m4 : m ≤ 4 := by omega
 rw [y0w]
 clear hC h p1 p2
 refine onu (zb8 rfl (zab (zaa (zsr rfl ?_))))
 refine zm1 [[.int .i64 0]] rfl rfl rfl rfl ?_
 refine za9 rfl (za7 rfl rfl ?_)
 refine o_own rfl rfl (rep0 m1 m4) (zl5 _) ?_
 refine za1 rfl (onu (za8 (zsr rfl (za9 rfl (za7 rfl rfl (zbd rfl rfl (za1 rfl (onu (zac ?_)))))))))
 refine zbu (J18s f m l) l.length (zcp [(some (2, 2), [.int .i64 0]), (some (3, 3), [.nils]), (some (4, 4), [.bool false]), (some (5, 5), [.int .i64 0]), (some (6, 6), (enE (List.replicate m false)).map (AV.int .i64))] [(0, 0, [.vs (cXs f)]), (1, 1, [.int .i64 (m : Nat), .vs (cPs l)])] rfl rfl rfl (.cons rfl rfl (.cons rfl rfl .nil)) (.cons rfl (.keep rfl) (.cons rfl (.keep rfl) (.cons rfl (.keep rfl) (.cons rfl (.keep rfl) (.cons (by rw [zy0]; rfl) (.keep (zah _)) .nil))))) (l' := [(2, .vptr [.vs (cXs f)]), (3, .vptr [.int .i64 (m : Nat), .vs (cPs l)]), (4, .mptr 0 0 0), (5, .mptr 1 0 0), (6, .mptr 2 0 0), (7, .mptr 3 0 0), (10, .ms 4 0 1 0 m (some m)), (38, .vs (cPs l)), (39, .int .i64 (cPs l).length), (40, .int .i64 ((0 : Nat) : Int))]) (.cons rfl (.fptr rfl rfl) (.cons rfl (.fptr rfl rfl) (.cons rfl (.mptr rfl) (.cons rfl (.mptr rfl) (.cons rfl (.mptr rfl) (.cons rfl (.mptr rfl) (.cons rfl (.ms rfl) (.cons rfl (.same rfl) (.cons rfl (.same rfl) (.cons rfl (.same rfl) .nil))))))))))) ⟨0, 0, rfl, y0t _, rfl, rfl⟩ fun mm S hJ => round18 hsl h2 m4 ok mm S hJ ?_ ?_
 ·intro l' hp nx ck mk hd g4 g5 g6 g7 hnx hmk r0 r1 r2 r3
  rw [hd]
  refine zbl (zaa (zsr rfl ?_))
  refine zad (sp := 0) g4 rfl rfl rfl r0 rfl rfl ?_
  refine zad (sp := 0) g5 rfl rfl rfl (by (repeat (first | rw [za0, if_pos rfl] | rw [za0, if_neg (by omega)] | rw [za3, if_neg (by omega)])); all_goals (first | rfl | assumption)) rfl rfl ?_
  refine zad (sp := 0) g6 rfl rfl rfl (by (repeat (first | rw [za0, if_pos rfl] | rw [za0, if_neg (by omega)] | rw [za3, if_neg (by omega)])); all_goals (first | rfl | assumption)) rfl rfl ?_
  refine zad (sp := 0) g7 rfl rfl rfl (by (repeat (first | rw [za0, if_pos rfl] | rw [za0, if_neg (by omega)] | rw [za3, if_neg (by omega)])); all_goals (first | rfl | assumption)) rfl rfl ?_
  refine onu (zak ?_)
  have hlv : ∀ k < 5, Am.look k (zhf mk (zax 3 (0, .cells [.int .i64 0]) (zax 2 (0, .cells [.bool false]) (zax 1 (0, .cells [.nils]) (zax 0 (0, .cells [.int .i64 0]) hp))))) = Am.look k (zax 3 (0, .cells [.int .i64 0]) (zax 2 (0, .cells [.bool false]) (zax 1 (0, .cells [.nils]) (zax 0 (0, .cells [.int .i64 0]) hp)))) := fun k hk => zg0 _ _ _ fun z hz e => by have := hmk z hz; omega
  refine zaf ⟨.inr rfl, _, zn5 ((zd3 4).trans g4) (zc4 (sp := 0) (cs := [.int .i64 0]) ((hlv 0 (by decide)).trans ?_) (show 0 < nx by omega)) ((zd3 5).trans g5) (zc4 (sp := 0) (cs := [.nils]) ((hlv 1 (by decide)).trans ?_) (show 1 < nx by omega)) ((zd3 6).trans g6) (zc4 (sp := 0) (cs := [.bool false]) ((hlv 2 (by decide)).trans ?_) (show 2 < nx by omega)) ((zd3 7).trans g7) (zc4 (sp := 0) (cs := [.int .i64 0]) ((hlv 3 (by decide)).trans ?_) (show 3 < nx by omega)), rfl⟩
  all_goals exact (by (repeat (first | rw [za0, if_pos rfl] | rw [za0, if_neg (by omega)] | rw [za3, if_neg (by omega)])); all_goals (first | rfl | assumption))
 ·intro l' i p hp nx ck mk hd g4 g5 g6 g7 hnx hmk r0 r1 r2 r3
  rw [hd]
  refine zag (za4 ?_)
  have hlv : ∀ k < 5, Am.look k (zhf mk (hp)) = Am.look k (hp) := fun k hk => zg0 _ _ _ fun z hz e => by have := hmk z hz; omega
  refine zaf ⟨.inr rfl, _, zn5 ((zd3 4).trans g4) (zc4 (sp := 0) (cs := [.int .i64 (i : Nat)]) ((hlv 0 (by decide)).trans ?_) (show 0 < nx by omega)) ((zd3 5).trans g5) (zc4 (sp := 0) (cs := [vsI p]) ((hlv 1 (by decide)).trans ?_) (show 1 < nx by omega)) ((zd3 6).trans g6) (zc4 (sp := 0) (cs := [.bool true]) ((hlv 2 (by decide)).trans ?_) (show 2 < nx by omega)) ((zd3 7).trans g7) (zc4 (sp := 0) (cs := [.int .i64 0]) ((hlv 3 (by decide)).trans ?_) (show 3 < nx by omega)), rfl⟩
  ·exact r0
  ·exact r1
  ·exact r2
  ·exact r3
end
theorem zpp : ∀ {cs : List (List Int)} {q : List Int}, q ∈ zeh cs → ∀ i, i < cs.length → q.getD i 0 ∈ cs.getD i []
 | [], _, _, i, h => absurd h (y2j i)
 | c :: cs, q, hq, i, hi => by
  rw [zeh, y2g] at hq
  obtain ⟨x, hx, hq⟩ := hq
  obtain ⟨p, hp, rfl⟩ := y0o.1 hq
  cases i with
  | zero => exact hx
  | succ i => exact zpp hp i (by rw [y0n] at hi; omega)
theorem zvw {E F : List Bool} {l : List Sk} {n i : Nat} (h : i < n) : (zfp E F l n).getD i [] = zm4 E F l i := by
 rw [y06, y07 (by rw [zgs]; exact h), y18, zqv]
theorem zy1 {E : List Bool} {i : Nat} (h : i < E.length) : (enE E).getD i 0 = zj1 (E.getD i false) := by
 unfold enE
 rw [y06, y0i, y07 h, y06, y07 h]
 rfl
def allE : List (List Bool) := [
 [false],
 [true],
 [false, false],
 [false, true],
 [true, false],
 [true, true],
 [false, false, false],
 [false, false, true],
 [false, true, false],
 [false, true, true],
 [true, false, false],
 [true, false, true],
 [true, true, false],
 [true, true, true],
 [false, false, false, false],
 [false, false, false, true],
 [false, false, true, false],
 [false, false, true, true],
 [false, true, false, false],
 [false, true, false, true],
 [false, true, true, false],
 [false, true, true, true],
 [true, false, false, false],
 [true, false, false, true],
 [true, false, true, false],
 [true, false, true, true],
 [true, true, false, false],
 [true, true, false, true],
 [true, true, true, false],
 [true, true, true, true]]
def zd9 : List Bool → Nat
 | [] => 0
 | b :: e => (if b then 1 else 0) + 2 * zd9 e
def zdn (e : List Bool) : List Int := e.map fun b => if b then 2 else 0
theorem zdi : ∀ e : List Bool, 1 ≤ e.length → e.length ≤ 4 → e ∈ allE
 | [], h, _ => by simp at h
 | [a], _, _ => by cases a <;> decide
 | [a, b], _, _ => by cases a <;> cases b <;> decide
 | [a, b, c], _, _ => by cases a <;> cases b <;> cases c <;> decide
 | [a, b, c, d], _, _ => by cases a <;> cases b <;> cases c <;> cases d <;> decide
 | _ :: _ :: _ :: _ :: _ :: e, _, h => by simp only [y0n] at h; omega
def rows55 : List (List AV × AV) := [
 ([.int .i64 1, .int .i64 0], .vs [[.bool false]]),
 ([.int .i64 1, .int .i64 1], .vs [[.bool true]]),
 ([.int .i64 2, .int .i64 0], .vs [[.bool false], [.bool false]]),
 ([.int .i64 2, .int .i64 2], .vs [[.bool false], [.bool true]]),
 ([.int .i64 2, .int .i64 1], .vs [[.bool true], [.bool false]]),
 ([.int .i64 2, .int .i64 3], .vs [[.bool true], [.bool true]]),
 ([.int .i64 3, .int .i64 0], .vs [[.bool false], [.bool false], [.bool false]]),
 ([.int .i64 3, .int .i64 4], .vs [[.bool false], [.bool false], [.bool true]]),
 ([.int .i64 3, .int .i64 2], .vs [[.bool false], [.bool true], [.bool false]]),
 ([.int .i64 3, .int .i64 6], .vs [[.bool false], [.bool true], [.bool true]]),
 ([.int .i64 3, .int .i64 1], .vs [[.bool true], [.bool false], [.bool false]]),
 ([.int .i64 3, .int .i64 5], .vs [[.bool true], [.bool false], [.bool true]]),
 ([.int .i64 3, .int .i64 3], .vs [[.bool true], [.bool true], [.bool false]]),
 ([.int .i64 3, .int .i64 7], .vs [[.bool true], [.bool true], [.bool true]]),
 ([.int .i64 4, .int .i64 0], .vs [[.bool false], [.bool false], [.bool false], [.bool false]]),
 ([.int .i64 4, .int .i64 8], .vs [[.bool false], [.bool false], [.bool false], [.bool true]]),
 ([.int .i64 4, .int .i64 4], .vs [[.bool false], [.bool false], [.bool true], [.bool false]]),
 ([.int .i64 4, .int .i64 12], .vs [[.bool false], [.bool false], [.bool true], [.bool true]]),
 ([.int .i64 4, .int .i64 2], .vs [[.bool false], [.bool true], [.bool false], [.bool false]]),
 ([.int .i64 4, .int .i64 10], .vs [[.bool false], [.bool true], [.bool false], [.bool true]]),
 ([.int .i64 4, .int .i64 6], .vs [[.bool false], [.bool true], [.bool true], [.bool false]]),
 ([.int .i64 4, .int .i64 14], .vs [[.bool false], [.bool true], [.bool true], [.bool true]]),
 ([.int .i64 4, .int .i64 1], .vs [[.bool true], [.bool false], [.bool false], [.bool false]]),
 ([.int .i64 4, .int .i64 9], .vs [[.bool true], [.bool false], [.bool false], [.bool true]]),
 ([.int .i64 4, .int .i64 5], .vs [[.bool true], [.bool false], [.bool true], [.bool false]]),
 ([.int .i64 4, .int .i64 13], .vs [[.bool true], [.bool false], [.bool true], [.bool true]]),
 ([.int .i64 4, .int .i64 3], .vs [[.bool true], [.bool true], [.bool false], [.bool false]]),
 ([.int .i64 4, .int .i64 11], .vs [[.bool true], [.bool true], [.bool false], [.bool true]]),
 ([.int .i64 4, .int .i64 7], .vs [[.bool true], [.bool true], [.bool true], [.bool false]]),
 ([.int .i64 4, .int .i64 15], .vs [[.bool true], [.bool true], [.bool true], [.bool true]])]
def rows56 : List (List AV × AV) := [
 ([.vs [[.bool false]]], .vs [[.int .i64 0]]),
 ([.vs [[.bool true]]], .vs [[.int .i64 2]]),
 ([.vs [[.bool false], [.bool false]]], .vs [[.int .i64 0], [.int .i64 0]]),
 ([.vs [[.bool false], [.bool true]]], .vs [[.int .i64 0], [.int .i64 2]]),
 ([.vs [[.bool true], [.bool false]]], .vs [[.int .i64 2], [.int .i64 0]]),
 ([.vs [[.bool true], [.bool true]]], .vs [[.int .i64 2], [.int .i64 2]]),
 ([.vs [[.bool false], [.bool false], [.bool false]]], .vs [[.int .i64 0], [.int .i64 0], [.int .i64 0]]),
 ([.vs [[.bool false], [.bool false], [.bool true]]], .vs [[.int .i64 0], [.int .i64 0], [.int .i64 2]]),
 ([.vs [[.bool false], [.bool true], [.bool false]]], .vs [[.int .i64 0], [.int .i64 2], [.int .i64 0]]),
 ([.vs [[.bool false], [.bool true], [.bool true]]], .vs [[.int .i64 0], [.int .i64 2], [.int .i64 2]]),
 ([.vs [[.bool true], [.bool false], [.bool false]]], .vs [[.int .i64 2], [.int .i64 0], [.int .i64 0]]),
 ([.vs [[.bool true], [.bool false], [.bool true]]], .vs [[.int .i64 2], [.int .i64 0], [.int .i64 2]]),
 ([.vs [[.bool true], [.bool true], [.bool false]]], .vs [[.int .i64 2], [.int .i64 2], [.int .i64 0]]),
 ([.vs [[.bool true], [.bool true], [.bool true]]], .vs [[.int .i64 2], [.int .i64 2], [.int .i64 2]]),
 ([.vs [[.bool false], [.bool false], [.bool false], [.bool false]]], .vs [[.int .i64 0], [.int .i64 0], [.int .i64 0], [.int .i64 0]]),
 ([.vs [[.bool false], [.bool false], [.bool false], [.bool true]]], .vs [[.int .i64 0], [.int .i64 0], [.int .i64 0], [.int .i64 2]]),
 ([.vs [[.bool false], [.bool false], [.bool true], [.bool false]]], .vs [[.int .i64 0], [.int .i64 0], [.int .i64 2], [.int .i64 0]]),
 ([.vs [[.bool false], [.bool false], [.bool true], [.bool true]]], .vs [[.int .i64 0], [.int .i64 0], [.int .i64 2], [.int .i64 2]]),
 ([.vs [[.bool false], [.bool true], [.bool false], [.bool false]]], .vs [[.int .i64 0], [.int .i64 2], [.int .i64 0], [.int .i64 0]]),
 ([.vs [[.bool false], [.bool true], [.bool false], [.bool true]]], .vs [[.int .i64 0], [.int .i64 2], [.int .i64 0], [.int .i64 2]]),
 ([.vs [[.bool false], [.bool true], [.bool true], [.bool false]]], .vs [[.int .i64 0], [.int .i64 2], [.int .i64 2], [.int .i64 0]]),
 ([.vs [[.bool false], [.bool true], [.bool true], [.bool true]]], .vs [[.int .i64 0], [.int .i64 2], [.int .i64 2], [.int .i64 2]]),
 ([.vs [[.bool true], [.bool false], [.bool false], [.bool false]]], .vs [[.int .i64 2], [.int .i64 0], [.int .i64 0], [.int .i64 0]]),
 ([.vs [[.bool true], [.bool false], [.bool false], [.bool true]]], .vs [[.int .i64 2], [.int .i64 0], [.int .i64 0], [.int .i64 2]]),
 ([.vs [[.bool true], [.bool false], [.bool true], [.bool false]]], .vs [[.int .i64 2], [.int .i64 0], [.int .i64 2], [.int .i64 0]]),
 ([.vs [[.bool true], [.bool false], [.bool true], [.bool true]]], .vs [[.int .i64 2], [.int .i64 0], [.int .i64 2], [.int .i64 2]]),
 ([.vs [[.bool true], [.bool true], [.bool false], [.bool false]]], .vs [[.int .i64 2], [.int .i64 2], [.int .i64 0], [.int .i64 0]]),
 ([.vs [[.bool true], [.bool true], [.bool false], [.bool true]]], .vs [[.int .i64 2], [.int .i64 2], [.int .i64 0], [.int .i64 2]]),
 ([.vs [[.bool true], [.bool true], [.bool true], [.bool false]]], .vs [[.int .i64 2], [.int .i64 2], [.int .i64 2], [.int .i64 0]]),
 ([.vs [[.bool true], [.bool true], [.bool true], [.bool true]]], .vs [[.int .i64 2], [.int .i64 2], [.int .i64 2], [.int .i64 2]])]
def zuh : List (List AV × AV) := [
 ([.vs [[.bool false]]], .int .i64 0),
 ([.vs [[.bool true]]], .int .i64 1),
 ([.vs [[.bool false], [.bool false]]], .int .i64 0),
 ([.vs [[.bool false], [.bool true]]], .int .i64 2),
 ([.vs [[.bool true], [.bool false]]], .int .i64 1),
 ([.vs [[.bool true], [.bool true]]], .int .i64 3),
 ([.vs [[.bool false], [.bool false], [.bool false]]], .int .i64 0),
 ([.vs [[.bool false], [.bool false], [.bool true]]], .int .i64 4),
 ([.vs [[.bool false], [.bool true], [.bool false]]], .int .i64 2),
 ([.vs [[.bool false], [.bool true], [.bool true]]], .int .i64 6),
 ([.vs [[.bool true], [.bool false], [.bool false]]], .int .i64 1),
 ([.vs [[.bool true], [.bool false], [.bool true]]], .int .i64 5),
 ([.vs [[.bool true], [.bool true], [.bool false]]], .int .i64 3),
 ([.vs [[.bool true], [.bool true], [.bool true]]], .int .i64 7),
 ([.vs [[.bool false], [.bool false], [.bool false], [.bool false]]], .int .i64 0),
 ([.vs [[.bool false], [.bool false], [.bool false], [.bool true]]], .int .i64 8),
 ([.vs [[.bool false], [.bool false], [.bool true], [.bool false]]], .int .i64 4),
 ([.vs [[.bool false], [.bool false], [.bool true], [.bool true]]], .int .i64 12),
 ([.vs [[.bool false], [.bool true], [.bool false], [.bool false]]], .int .i64 2),
 ([.vs [[.bool false], [.bool true], [.bool false], [.bool true]]], .int .i64 10),
 ([.vs [[.bool false], [.bool true], [.bool true], [.bool false]]], .int .i64 6),
 ([.vs [[.bool false], [.bool true], [.bool true], [.bool true]]], .int .i64 14),
 ([.vs [[.bool true], [.bool false], [.bool false], [.bool false]]], .int .i64 1),
 ([.vs [[.bool true], [.bool false], [.bool false], [.bool true]]], .int .i64 9),
 ([.vs [[.bool true], [.bool false], [.bool true], [.bool false]]], .int .i64 5),
 ([.vs [[.bool true], [.bool false], [.bool true], [.bool true]]], .int .i64 13),
 ([.vs [[.bool true], [.bool true], [.bool false], [.bool false]]], .int .i64 3),
 ([.vs [[.bool true], [.bool true], [.bool false], [.bool true]]], .int .i64 11),
 ([.vs [[.bool true], [.bool true], [.bool true], [.bool false]]], .int .i64 7),
 ([.vs [[.bool true], [.bool true], [.bool true], [.bool true]]], .int .i64 15)]
def zzz : List (List AV × AV) := [
 ([.int .i64 1, .int .i64 0], .vs [[.int .i64 0]]),
 ([.int .i64 1, .int .i64 1], .vs [[.int .i64 2]]),
 ([.int .i64 2, .int .i64 0], .vs [[.int .i64 0], [.int .i64 0]]),
 ([.int .i64 2, .int .i64 2], .vs [[.int .i64 0], [.int .i64 2]]),
 ([.int .i64 2, .int .i64 1], .vs [[.int .i64 2], [.int .i64 0]]),
 ([.int .i64 2, .int .i64 3], .vs [[.int .i64 2], [.int .i64 2]]),
 ([.int .i64 3, .int .i64 0], .vs [[.int .i64 0], [.int .i64 0], [.int .i64 0]]),
 ([.int .i64 3, .int .i64 4], .vs [[.int .i64 0], [.int .i64 0], [.int .i64 2]]),
 ([.int .i64 3, .int .i64 2], .vs [[.int .i64 0], [.int .i64 2], [.int .i64 0]]),
 ([.int .i64 3, .int .i64 6], .vs [[.int .i64 0], [.int .i64 2], [.int .i64 2]]),
 ([.int .i64 3, .int .i64 1], .vs [[.int .i64 2], [.int .i64 0], [.int .i64 0]]),
 ([.int .i64 3, .int .i64 5], .vs [[.int .i64 2], [.int .i64 0], [.int .i64 2]]),
 ([.int .i64 3, .int .i64 3], .vs [[.int .i64 2], [.int .i64 2], [.int .i64 0]]),
 ([.int .i64 3, .int .i64 7], .vs [[.int .i64 2], [.int .i64 2], [.int .i64 2]]),
 ([.int .i64 4, .int .i64 0], .vs [[.int .i64 0], [.int .i64 0], [.int .i64 0], [.int .i64 0]]),
 ([.int .i64 4, .int .i64 8], .vs [[.int .i64 0], [.int .i64 0], [.int .i64 0], [.int .i64 2]]),
 ([.int .i64 4, .int .i64 4], .vs [[.int .i64 0], [.int .i64 0], [.int .i64 2], [.int .i64 0]]),
 ([.int .i64 4, .int .i64 12], .vs [[.int .i64 0], [.int .i64 0], [.int .i64 2], [.int .i64 2]]),
 ([.int .i64 4, .int .i64 2], .vs [[.int .i64 0], [.int .i64 2], [.int .i64 0], [.int .i64 0]]),
 ([.int .i64 4, .int .i64 10], .vs [[.int .i64 0], [.int .i64 2], [.int .i64 0], [.int .i64 2]]),
 ([.int .i64 4, .int .i64 6], .vs [[.int .i64 0], [.int .i64 2], [.int .i64 2], [.int .i64 0]]),
 ([.int .i64 4, .int .i64 14], .vs [[.int .i64 0], [.int .i64 2], [.int .i64 2], [.int .i64 2]]),
 ([.int .i64 4, .int .i64 1], .vs [[.int .i64 2], [.int .i64 0], [.int .i64 0], [.int .i64 0]]),
 ([.int .i64 4, .int .i64 9], .vs [[.int .i64 2], [.int .i64 0], [.int .i64 0], [.int .i64 2]]),
 ([.int .i64 4, .int .i64 5], .vs [[.int .i64 2], [.int .i64 0], [.int .i64 2], [.int .i64 0]]),
 ([.int .i64 4, .int .i64 13], .vs [[.int .i64 2], [.int .i64 0], [.int .i64 2], [.int .i64 2]]),
 ([.int .i64 4, .int .i64 3], .vs [[.int .i64 2], [.int .i64 2], [.int .i64 0], [.int .i64 0]]),
 ([.int .i64 4, .int .i64 11], .vs [[.int .i64 2], [.int .i64 2], [.int .i64 0], [.int .i64 2]]),
 ([.int .i64 4, .int .i64 7], .vs [[.int .i64 2], [.int .i64 2], [.int .i64 2], [.int .i64 0]]),
 ([.int .i64 4, .int .i64 15], .vs [[.int .i64 2], [.int .i64 2], [.int .i64 2], [.int .i64 2]])]
def own95 : List (List AV × List AV) := [
 ([.int .i64 1, .int .i64 0], [.int .i64 0]),
 ([.int .i64 1, .int .i64 1], [.int .i64 2]),
 ([.int .i64 2, .int .i64 0], [.int .i64 0, .int .i64 0]),
 ([.int .i64 2, .int .i64 2], [.int .i64 0, .int .i64 2]),
 ([.int .i64 2, .int .i64 1], [.int .i64 2, .int .i64 0]),
 ([.int .i64 2, .int .i64 3], [.int .i64 2, .int .i64 2]),
 ([.int .i64 3, .int .i64 0], [.int .i64 0, .int .i64 0, .int .i64 0]),
 ([.int .i64 3, .int .i64 4], [.int .i64 0, .int .i64 0, .int .i64 2]),
 ([.int .i64 3, .int .i64 2], [.int .i64 0, .int .i64 2, .int .i64 0]),
 ([.int .i64 3, .int .i64 6], [.int .i64 0, .int .i64 2, .int .i64 2]),
 ([.int .i64 3, .int .i64 1], [.int .i64 2, .int .i64 0, .int .i64 0]),
 ([.int .i64 3, .int .i64 5], [.int .i64 2, .int .i64 0, .int .i64 2]),
 ([.int .i64 3, .int .i64 3], [.int .i64 2, .int .i64 2, .int .i64 0]),
 ([.int .i64 3, .int .i64 7], [.int .i64 2, .int .i64 2, .int .i64 2]),
 ([.int .i64 4, .int .i64 0], [.int .i64 0, .int .i64 0, .int .i64 0, .int .i64 0]),
 ([.int .i64 4, .int .i64 8], [.int .i64 0, .int .i64 0, .int .i64 0, .int .i64 2]),
 ([.int .i64 4, .int .i64 4], [.int .i64 0, .int .i64 0, .int .i64 2, .int .i64 0]),
 ([.int .i64 4, .int .i64 12], [.int .i64 0, .int .i64 0, .int .i64 2, .int .i64 2]),
 ([.int .i64 4, .int .i64 2], [.int .i64 0, .int .i64 2, .int .i64 0, .int .i64 0]),
 ([.int .i64 4, .int .i64 10], [.int .i64 0, .int .i64 2, .int .i64 0, .int .i64 2]),
 ([.int .i64 4, .int .i64 6], [.int .i64 0, .int .i64 2, .int .i64 2, .int .i64 0]),
 ([.int .i64 4, .int .i64 14], [.int .i64 0, .int .i64 2, .int .i64 2, .int .i64 2]),
 ([.int .i64 4, .int .i64 1], [.int .i64 2, .int .i64 0, .int .i64 0, .int .i64 0]),
 ([.int .i64 4, .int .i64 9], [.int .i64 2, .int .i64 0, .int .i64 0, .int .i64 2]),
 ([.int .i64 4, .int .i64 5], [.int .i64 2, .int .i64 0, .int .i64 2, .int .i64 0]),
 ([.int .i64 4, .int .i64 13], [.int .i64 2, .int .i64 0, .int .i64 2, .int .i64 2]),
 ([.int .i64 4, .int .i64 3], [.int .i64 2, .int .i64 2, .int .i64 0, .int .i64 0]),
 ([.int .i64 4, .int .i64 11], [.int .i64 2, .int .i64 2, .int .i64 0, .int .i64 2]),
 ([.int .i64 4, .int .i64 7], [.int .i64 2, .int .i64 2, .int .i64 2, .int .i64 0]),
 ([.int .i64 4, .int .i64 15], [.int .i64 2, .int .i64 2, .int .i64 2, .int .i64 2])]
theorem eq61 : zuh = allE.map fun e => ([vsB e], .int .i64 (zd9 e : Nat)) := by kernel_rfl
theorem eq95 : zzz = allE.map fun e => ([.int .i64 (e.length : Nat), .int .i64 (zd9 e : Nat)], vsI (zdn e)) := by kernel_rfl
theorem eqO95 : own95 = allE.map fun e => ([.int .i64 (e.length : Nat), .int .i64 (zd9 e : Nat)], (zdn e).map (AV.int .i64)) := by kernel_rfl
def tabX : Tab := [(55, rows55), (56, rows56), (61, zuh), (93, zuh), (95, zzz)]
theorem yaj : TabOk Try.prog tabX := TabOk.of_run (env0_ok.tab TabOk.nil (pure := [])) (n := 80) (by kernel_rfl)
theorem own95_ok : zqh Try.prog (env0.tab [] []) 80 95 some own95 = true := by kernel_rfl
def zcq (e : List Bool) (i : Nat) : List Bool := e.set i (!(e.getD i false))
theorem zd8 (e : List Bool) (i : Nat) : (zcq e i).length = e.length := y1c ..
theorem shl1 {i : Nat} (h : i < 4) : Am.binOp .shl (.int .i64 1) (.int .i64 (i : Nat)) = some (.int .i64 ((2 ^ i : Nat) : Int)) := by
 rcases (show i = 0 ∨ i = 1 ∨ i = 2 ∨ i = 3 by omega) with rfl | rfl | rfl | rfl <;> rfl
theorem xorE_all : ∀ e ∈ allE, ∀ i ∈ [0, 1, 2, 3], i < e.length → IntKind.i64.wrap (BitVec.ofInt 64 (zd9 e : Nat) ^^^ BitVec.ofInt 64 ((2 ^ i : Nat) : Int)).toNat = ((zd9 (zcq e i) : Nat) : Int) := by decide +kernel
theorem xorE {e : List Bool} (h1 : 1 ≤ e.length) (h4 : e.length ≤ 4) {i : Nat} (hi : i < e.length) : Am.binOp .xor (.int .i64 (zd9 e : Nat)) (.int .i64 ((2 ^ i : Nat) : Int)) = some (.int .i64 (zd9 (zcq e i) : Nat)) := by
 have := xorE_all e (zdi e h1 h4) i (by rcases (show i = 0 ∨ i = 1 ∨ i = 2 ∨ i = 3 by omega) with rfl | rfl | rfl | rfl <;> simp) hi
 exact congrArg (fun z => some (AV.int .i64 z)) this
theorem zrq : ∀ e ∈ allE, ∀ i ∈ [0, 1, 2, 3], i < e.length → zd9 e ≠ zd9 (zcq e i) := by decide +kernel
theorem flip_ne {e : List Bool} (h1 : 1 ≤ e.length) (h4 : e.length ≤ 4) {i : Nat} (hi : i < e.length) : zd9 e ≠ zd9 (zcq e i) :=
 zrq e (zdi e h1 h4) i (by rcases (show i = 0 ∨ i = 1 ∨ i = 2 ∨ i = 3 by omega) with rfl | rfl | rfl | rfl <;> simp) hi
section
variable {e : List Bool} (h1 : 1 ≤ e.length) (h4 : e.length ≤ 4)
include h1 h4
theorem index93 : PF Try.prog 93 [vsB e] (.int .i64 (zd9 e : Nat)) :=
 yaj (93, zuh) (.tail _ (.tail _ (.tail _ (.head _)))) _ (by rw [eq61]; exact y0o.2 ⟨e, zdi e h1 h4, rfl⟩)
theorem pos95 : PF Try.prog 95 [.int .i64 (e.length : Nat), .int .i64 (zd9 e : Nat)] (vsI (zdn e)) :=
 yaj (95, zzz) (.tail _ (.tail _ (.tail _ (.tail _ (.head _))))) _ (by rw [eq95]; exact y0o.2 ⟨e, zdi e h1 h4, rfl⟩)
theorem pos95o : PFo Try.prog 95 [.int .i64 (e.length : Nat), .int .i64 (zd9 e : Nat)] 1 e.length (some e.length) ((zdn e).map (AV.int .i64)) := by
 have := ze1 (env0_ok.tab TabOk.nil) own95_ok _ (by rw [eqO95]; exact y0o.2 ⟨e, zdi e h1 h4, rfl⟩)
 simpa [zdn] using this
end
def zdw (l : List Ex) (p : List Int) : Bool := (ziu l p).isEmpty
-- pneumatic/homing.allowed
def ic94 : IC := .seq (.region [oM 2 (.box (.t 0)),
  oM 4 (.mov (.c (.bool false)))] none)
 (.seq (.region [oL 8 1 2,
  oT 9 1,
  oM 10 (.call (.c (.fn 25 [] [])) [(.t 8), (.t 9)]),
  oT 7 10,
  oM 11 (.extract (.t 7) 0),
  oM 12 (.extract (.t 7) 1),
  oT 5 11,
  oT 6 12] none)
 (.seq (.region [oT 13 6,
  oM 14 (.bin .eql (.t 13) (.c (.int .i64 0))),
  oT 15 14,
  ⟨(some 16), .mov (.t 5), some (15, true)⟩,
  oM 17 (.pick (.t 15) (.t 16) (.c (.bool false))),
  oT 4 17] none)
 (.ret)))
theorem fn94 : env0.fn 94 = some ⟨18, ic94, [.t 4]⟩ := by kernel_rfl
theorem zge (l : List Ex) (hsl : ∀ y ∈ l, Slim y) (p : List Int) (hp : zvo l p = 0) : PF Try.prog 94 [.agg [.vs (cXs l)], vsI p] (.bool (zdw l p)) := by
 have h := zwo l hsl p
 rw [znk, if_pos hp] at h
 unfold zdw
 refine zb1 env0_ok fn94 [(0, .agg [.vs (cXs l)]), (1, vsI p)] (by show 2 ≤ 18; decide) rfl fun w0 N0 => ?_
 unfold ic94
 refine zsr rfl (zc1 rfl rfl (za1 rfl (onr rfl (zam rfl rfl rfl rfl (za1 rfl ?_)))))
 refine zap rfl rfl h noC ?_
 repeat (first | refine za8 ?_ | refine za5 rfl ?_ | refine zai ?_ | refine zaa ?_ | refine zak ?_ | refine zbc rfl ?_ | refine za1 rfl ?_ | refine zat rfl rfl ?_ | refine zbj rfl rfl ?_ | refine zby rfl rfl rfl ?_)
 exact zaf ⟨.inr rfl, _, rfl, rfl⟩
theorem zii : ∀ e : List Bool, zw4 (zdn e) = 0
 | [] => rfl
 | b :: e => by
  show (if (if b then (2 : Int) else 0) < 0 ∨ (if b then (2 : Int) else 0) ≥ 4 then (1 : Int) else zw4 (zdn e)) = 0
  rw [zii e]
  cases b <;> rfl
theorem zox {z : Int} (h0 : 0 ≤ z) (h4 : z < 4) : ∀ (p : List Int) (i : Nat), zw4 p = 0 → zw4 (p.set i z) = 0
 | [], _, h => h
 | y :: p, 0, h => by
  rw [List.set_cons_zero]
  unfold zw4 at h ⊢
  rw [if_neg (by omega)]
  split at h
  ·cases h
  ·exact h
 | y :: p, i + 1, h => by
  rw [List.set_cons_succ]
  unfold zw4 at h ⊢
  split at h
  ·cases h
  ·rename_i hy
   rw [if_neg hy]
   exact zox h0 h4 p i h
def wayE (e : List Bool) (i : Nat) : List Int := (zdn e).set i (if e.getD i false then 3 else 1)
def zqe (l : List Ex) (e : List Bool) (i : Nat) : Bool := zdw l (zdn e) && zdw l (zdn (zcq e i)) && zdw l (wayE e i)
theorem zih (e : List Bool) : (zdn e).length = e.length := y09 ..
section
variable {l : List Ex} {e : List Bool} (hg : zcc l e.length = 0)
include hg
theorem zow : zvo l (zdn e) = 0 := by
 unfold zvo
 rw [zih, if_pos hg]
 exact zii e
theorem zzn (i : Nat) : zvo l (zdn (zcq e i)) = 0 := by
 unfold zvo
 rw [zih, zd8, if_pos hg]
 exact zii _
theorem posC_way (i : Nat) : zvo l (wayE e i) = 0 := by
 unfold zvo wayE
 rw [y1c, zih, if_pos hg]
 split
 ·exact zox (by decide) (by decide) _ _ (zii e)
 ·exact zox (by decide) (by decide) _ _ (zii e)
end
-- pneumatic/homing.may
def ic104 : IC := .seq (.region [oM 4 (.box (.t 0)),
  oM 8 (.mov (.c (.bool false)))] none)
 (.seq (.seq (.region [oL 10 1 4,
  oT 11 1,
  oT 12 2,
  oM 13 (.call (.c (.fn 95 [] [])) [(.t 11), (.t 12)]),
  oM 14 (.call (.c (.fn 94 [] [])) [(.t 10), (.t 13)]),
  oM 15 (.un .not (.t 14)),
  oT 16 15,
  ⟨(some 17), .load (some 1) (.t 4), some (16, false)⟩,
  ⟨(some 18), .mov (.t 1), some (16, false)⟩,
  ⟨(some 19), .mov (.t 2), some (16, false)⟩,
  ⟨(some 20), .mov (.t 3), some (16, false)⟩,
  ⟨(some 21), .bin .shl (.c (.int .i64 1)) (.t 20), some (16, false)⟩,
  ⟨(some 22), .bin .xor (.t 19) (.t 21), some (16, false)⟩,
  ⟨(some 23), .call (.c (.fn 95 [] [])) [(.t 18), (.t 22)], some (16, false)⟩,
  ⟨(some 24), .call (.c (.fn 94 [] [])) [(.t 17), (.t 23)], some (16, false)⟩,
  ⟨(some 25), .un .not (.t 24), some (16, false)⟩,
  oM 26 (.pick (.t 16) (.c (.bool true)) (.t 25))] (some [[], [], [], [1, 2], [0, 3, 3], [4], [5, 4], [6], [6], [6], [6], [10, 6], [9, 11, 6], [8, 12, 6, 6], [7, 13, 13, 6], [14, 6], [6, 15]]))
 (.cond (.t 26) (.seq (.region [oM 8 (.mov (.c (.bool false)))] none)
 (.ret))
 (.skip)))
 (.seq (.region [oT 27 1,
  oT 28 2,
  oM 29 (.call (.c (.fn 95 [] [])) [(.t 27), (.t 28)]),
  oT 9 29] none)
 (.seq (.seq (.region [oT 30 9,
  oT 31 3,
  oM 32 (.idxs 1 (.t 30) (.t 31)),
  oN 33 32,
  oM 34 (.bin .eql (.t 33) (.c (.int .i64 0)))] none)
 (.cond (.t 34) (.region [oT 35 9,
  oT 36 3,
  oM 37 (.idxs 1 (.t 35) (.t 36)),
  ⟨none, .store 1 (.t 37) (.c (.int .i64 1)), none⟩] none)
 (.region [oT 38 9,
  oT 39 3,
  oM 40 (.idxs 1 (.t 38) (.t 39)),
  ⟨none, .store 1 (.t 40) (.c (.int .i64 3)), none⟩] none)))
 (.seq (.region [oL 41 1 4,
  oT 42 9,
  oM 43 (.call (.c (.fn 94 [] [])) [(.t 41), (.t 42)]),
  oT 8 43] none)
 (.ret)))))
theorem fn104 : env0.fn 104 = some ⟨44, ic104, [.t 8]⟩ := by kernel_rfl
theorem zj3 (l : List Int) : hasM.hasML (l.map (AV.int .i64)) = false := by
 induction l with
 | nil => rfl
 | cons z l ih => simp only [y1h, hasM.hasML, ih]; rfl
theorem zpx (l : List Int) : (l.map (AV.int .i64)) = (l.map fun z => ([.int .i64 z] : List AV)).flatten := by
 induction l with
 | nil => rfl
 | cons z l ih => simpa using ih
theorem vsI_inj {a b : List Int} (h : vsI a = vsI b) : a = b := by
 injection h with h
 exact (List.map_inj_right fun x y hxy => by injection hxy with hxy; injection hxy).1 h
theorem may104 (l : List Ex) (hsl : ∀ y ∈ l, Slim y) (e : List Bool) (h1 : 1 ≤ e.length) (h4 : e.length ≤ 4) (hg : zcc l e.length = 0) (i : Nat) (hi : i < e.length) :
  PF Try.prog 104 [.agg [.vs (cXs l)], .int .i64 (e.length : Nat), .int .i64 (zd9 e : Nat), .int .i64 (i : Nat)] (.bool (zqe l e i)) := by
 have a1 := zge l hsl (zdn e) (zow hg)
 have a2 := zge l hsl (zdn (zcq e i)) (zzn hg i)
 have a3 := zge l hsl (wayE e i) (posC_way hg i)
 have q1 := pos95 h1 h4
 have hf1 : 1 ≤ (zcq e i).length := by rw [zd8]; exact h1
 have hf4 : (zcq e i).length ≤ 4 := by rw [zd8]; exact h4
 have q2 := pos95 hf1 hf4
 rw [zd8] at q2
 have hx := xorE h1 h4 hi
 have hs := shl1 (show i < 4 by omega)
 have hpl : (zdn e).length = e.length := zih e
 have hgd : (zdn e)[i]? = some (if e.getD i false then 2 else 0) := by
  rw [zdn, y0i, y06]
  rw [y07 hi]
  rfl
 have hge : ((zdn e).map (AV.int .i64))[i]? = some (.int .i64 (if e.getD i false then 2 else 0)) := by rw [y0i, hgd]; rfl
 have hne := flip_ne h1 h4 hi
 unfold zqe
 generalize hb1 : zdw l (zdn e) = b1 at *
 generalize hb2 : zdw l (zdn (zcq e i)) = b2 at *
 refine zb1 env0_ok fn104 [(0, .agg [.vs (cXs l)]), (1, .int .i64 (e.length : Nat)), (2, .int .i64 (zd9 e : Nat)), (3, .int .i64 (i : Nat))] (by show 4 ≤ 44; decide) rfl fun w0 N0 => ?_
 unfold ic104
 refine zsr rfl (zc1 rfl rfl (za1 rfl (onu (za8 (za8 ?_)))))
 refine zg4 env0_ok [(95, [.int .i64 (e.length : Nat), .int .i64 (zd9 e : Nat)], vsI (zdn e)), (95, [.int .i64 (e.length : Nat), .int .i64 (zd9 (zcq e i) : Nat)], vsI (zdn (zcq e i))), (94, [.agg [.vs (cXs l)], vsI (zdn e)], .bool b1), (94, [.agg [.vs (cXs l)], vsI (zdn (zcq e i))], .bool b2)] (fun x hx => by
  rcases y0m.1 hx with rfl | hx
  ·exact q1
  rcases y0m.1 hx with rfl | hx
  ·exact q2
  rcases y0m.1 hx with rfl | hx
  ·exact a1
  obtain rfl := y0e.1 hx
  exact a2) (fun f => Nat.beq f 95 || Nat.beq f 94) rfl rfl rfl ?_
 refine zam rfl rfl rfl rfl (za1 rfl (za1 rfl ?_))
 refine zap rfl rfl zbq noC ?_
 refine zap rfl rfl (zda (by decide) (zda (by decide) zbq)) noC ?_
 cases b1 with
 | false =>
  repeat (first | refine za8 ?_ | refine za5 rfl ?_ | refine zai ?_ | refine zaa ?_ | refine zb4 rfl ?_ | refine zak ?_ | refine za4 ?_ | refine zbz rfl rfl ?_ | refine za1 rfl ?_ | refine zat rfl rfl ?_ | refine zfr rfl rfl ?_)
  exact zaf ⟨.inr rfl, _, rfl, rfl⟩
 | true =>
  repeat (first | refine zbc rfl ?_ | refine za1 rfl ?_ | refine zam rfl rfl rfl rfl ?_ | refine zfr rfl rfl ?_)
  refine zb6 (op := .shl) rfl rfl hs ?_
  refine zbc rfl ?_
  refine zb6 (op := .xor) rfl rfl hx ?_
  refine zbc rfl ?_
  refine zap rfl rfl (ztv (fun e0 => ?_) zbq) noC ?_
  ·injection e0 with _ e0
   injection e0 with e0
   injection e0 with _ e0
   exact absurd (Int.ofNat_inj.1 e0) hne
  refine zbc rfl ?_
  refine zap rfl rfl (zda (by decide) (zda (by decide) (ztv (fun e0 => ?_) zbq))) noC ?_
  ·injection e0 with _ e0
   injection e0 with e0
   have e0 := vsI_inj e0
   rw [e0, hb2] at hb1
   rw [hb1]
  cases b2 with
  | false =>
   refine zbc rfl (zfr rfl rfl (zal rfl rfl (onu (zb4 rfl (zsr rfl (za1 rfl (onu (zak (za4 ?_)))))))))
   exact zaf ⟨.inr rfl, _, rfl, rfl⟩
  | true =>
   refine zbc rfl (zfr rfl rfl (zal rfl rfl (onu (zb8 rfl (zab (zaa (zsr rfl (za1 rfl (za1 rfl ?_)))))))))
   refine o_own rfl rfl (pos95o h1 h4) (zh0 _) ?_
   refine za1 rfl (onu (za8 (zsr rfl (za1 rfl (za1 rfl (zb3 rfl rfl (by omega) (by omega) ?_))))))
   have e0 : 0 + ((i : Nat) : Int).toNat * 1 = i := by omega
   rw [e0]
   refine zhi rfl rfl (by decide) hge ?_
   have hml : ((zdn e).map (AV.int .i64)).length = e.length := by rw [y09, hpl]
   have hws : ∀ z : Int, ((zdn e).map (AV.int .i64)).set i (.int .i64 z) = ((zdn e).set i z).map (AV.int .i64) := fun z => by rw [List.map_set]
   have hfz : ∀ z : Int, RenF 1 1 (((zdn e).map (AV.int .i64)).set i (.int .i64 z)) (.ms 1 1 1 0 e.length (some e.length)) (vsI ((zdn e).set i z)) := fun z => .fms (by rw [y09, y1c, hpl]) (fun x hx => by obtain ⟨y, _, rfl⟩ := y0o.1 hx; rfl) ⟨[], by rw [y14, y0p, hws]; exact zpx _⟩
   unfold wayE at a3 ⊢
   cases hb : e.getD i false with
   | true =>
    rw [hb] at a3
    simp only [if_true, y0l, if_false] at a3
    refine zci rfl rfl rfl (onu (zb8 rfl (za5 rfl (za1 rfl (za1 rfl (zb3 rfl rfl (by omega) (by omega) ?_))))))
    rw [e0]
    refine ze0 rfl rfl rfl rfl (by rw [hml]; exact hi) rfl ?_
    refine onr rfl (zam rfl rfl rfl rfl (za1 rfl ?_))
    refine zop 1 1 [(41, .agg [.vs (cXs l)]), (42, vsI ((zdn e).set i 3))] rfl (by rw [hws]; exact zj3 _) (.cons rfl .same (.cons rfl (hfz 3) .nil)) ?_
    refine zap rfl rfl a3 noC ?_
    refine za1 rfl (onu (zak ?_))
    exact zaf ⟨.inr rfl, _, rfl, rfl⟩
   | false =>
    rw [hb] at a3
    simp only [if_true, y0l, if_false] at a3
    refine zby rfl rfl rfl (onu (zb4 rfl (za5 rfl (za1 rfl (za1 rfl (zb3 rfl rfl (by omega) (by omega) ?_))))))
    rw [e0]
    refine ze0 rfl rfl rfl rfl (by rw [hml]; exact hi) rfl ?_
    refine onr rfl (zam rfl rfl rfl rfl (za1 rfl ?_))
    refine zop 1 1 [(41, .agg [.vs (cXs l)]), (42, vsI ((zdn e).set i 1))] rfl (by rw [hws]; exact zj3 _) (.cons rfl .same (.cons rfl (hfz 1) .nil)) ?_
    refine zap rfl rfl a3 noC ?_
    refine za1 rfl (onu (zak ?_))
    exact zaf ⟨.inr rfl, _, rfl, rfl⟩
theorem bit_all : ∀ e ∈ allE, ∀ i ∈ [0, 1, 2, 3], i < e.length → (((zd9 e : Nat) : Int).fdiv (2 ^ (min i 64)) = ((zd9 e / 2 ^ i : Nat) : Int)) ∧ IntKind.i64.wrap (BitVec.ofInt 64 ((zd9 e / 2 ^ i : Nat) : Int) &&& BitVec.ofInt 64 1).toNat = (if e.getD i false then (1 : Int) else 0) := by decide +kernel
section
variable {e : List Bool} (h1 : 1 ≤ e.length) (h4 : e.length ≤ 4) {i : Nat} (hi : i < e.length)
include h1 h4 hi
theorem bit_i : (((zd9 e : Nat) : Int).fdiv (2 ^ (min i 64)) = ((zd9 e / 2 ^ i : Nat) : Int)) ∧ IntKind.i64.wrap (BitVec.ofInt 64 ((zd9 e / 2 ^ i : Nat) : Int) &&& BitVec.ofInt 64 1).toNat = (if e.getD i false then (1 : Int) else 0) :=
 bit_all e (zdi e h1 h4) i (by rcases (show i = 0 ∨ i = 1 ∨ i = 2 ∨ i = 3 by omega) with rfl | rfl | rfl | rfl <;> simp) hi
theorem shrE : Am.binOp .shr (.int .i64 (zd9 e : Nat)) (.int .i64 (i : Nat)) = some (.int .i64 (zd9 e / 2 ^ i : Nat)) := by
 have h := (bit_i h1 h4 hi).1
 have hn : ¬ ((i : Nat) : Int) < 0 := by omega
 show (if ((i : Nat) : Int) < 0 then none else some (AV.int .i64 (((zd9 e : Nat) : Int).fdiv (2 ^ (min ((i : Nat) : Int).toNat 64))))) = _
 rw [if_neg hn, y0w, h]
theorem andE : Am.binOp .and (.int .i64 (zd9 e / 2 ^ i : Nat)) (.int .i64 1) = some (.int .i64 (if e.getD i false then (1 : Int) else 0)) :=
 congrArg (fun z => some (AV.int .i64 z)) (bit_i h1 h4 hi).2
end
theorem eqE (b : Bool) : Am.binOp .eql (.int .i64 (if b then (1 : Int) else 0)) (.int .i64 1) = some (.bool b) := by cases b <;> rfl
-- pneumatic/homing.bits
def ic106 : IC := .seq (.region [oM 2 (.box (.t 0)),
  oM 3 (.box (.t 1)),
  oM 4 (.mov (.c (.nilf)))] none)
 (.seq (.region [oM 5 (.mkfn 144 [] [(.t 2), (.t 3)]),
  oT 4 5] none)
 (.ret))
theorem fn106 : env0.fn 106 = some ⟨6, ic106, [.t 4]⟩ := by kernel_rfl
theorem bits106 (n k : Int) : PF Try.prog 106 [.int .i64 n, .int .i64 k] (.fn 144 [] [.vptr [.int .i64 n], .vptr [.int .i64 k]]) := by
 refine zb1 env0_ok fn106 [(0, .int .i64 n), (1, .int .i64 k)] (by show 2 ≤ 6; decide) rfl fun w0 N0 => ?_
 unfold ic106
 refine zsr rfl (zc1 rfl rfl (zc1 rfl rfl (za1 rfl (onr rfl (zfk rfl rfl (za1 rfl (onu (zak ?_))))))))
 exact zaf ⟨.inr rfl, _, rfl, rfl⟩
def b144_0 : IC := .seq (.region [oM 7 (.bin .lss (.t 6) (.t 5))] none)
 (.seq (.cond (.t 7) (.skip)
 (.exit 0))
 (.seq (.block 1 (.seq (.region [oT 8 6,
  oT 4 8] none)
 (.seq (.region [oT 9 0,
  oT 10 4,
  oN 11 2,
  oT 12 4,
  oM 13 (.bin .shr (.t 11) (.t 12)),
  oM 14 (.bin .and (.t 13) (.c (.int .i64 1))),
  oM 15 (.bin .eql (.t 14) (.c (.int .i64 1))),
  oM 16 (.call (.t 9) [(.t 10), (.t 15)]),
  oM 17 (.un .not (.t 16))] none)
 (.cond (.t 17) (.ret)
 (.skip)))))
 (.region [oM 18 (.bin .add (.t 6) (.c (.int .i64 1))),
  oT 6 18] none)))
-- pneumatic/homing.bits$1
def ic144 : IC := .seq (.region [oN 5 1,
  oM 6 (.mov (.c (.int .i64 0)))] none)
 (.block 0 (.loop b144_0))
theorem fn144 : env0.fn 144 = some ⟨19, ic144, []⟩ := by kernel_rfl
set_option maxHeartbeats 2000000 in
theorem range144 {w0 : World} {N0 id sp : Nat} {M : Nat → Prop} {I : Nat → HS → Prop} {e : List Bool} (h1 : 1 ≤ e.length) (h4 : e.length ≤ 4)
  (hy : ∀ i H, i < e.length → I i H → CT Try.prog w0 N0 (.yield id sp) [.int .i64 (i : Nat), .bool (e.getD i false)] H fun v H' => v = .bool true ∧ Keep M H H' ∧ I (i + 1) H') (H : HS) (hI : I 0 H) :
  FT Try.prog w0 N0 144 [.yield id sp, .vptr [.int .i64 (e.length : Nat)], .vptr [.int .i64 (zd9 e : Nat)]] H fun _ H' => Keep M H H' ∧ I e.length H' := by
 refine zep env0_ok fn144 [(0, .yield id sp), (1, .vptr [.int .i64 (e.length : Nat)]), (2, .vptr [.int .i64 (zd9 e : Nat)])] (by show 3 ≤ 19; decide) rfl ?_
 unfold ic144
 refine zsr rfl (za7 rfl rfl (za1 rfl (onu (zac ?_))))
 refine zbu (fun m S => ∃ i H', m = e.length - i ∧ i ≤ e.length ∧ I i H' ∧ Keep M H H' ∧
   S = st 19 [(0, .yield id sp), (2, .vptr [.int .i64 (zd9 e : Nat)]), (5, .int .i64 (e.length : Nat)), (6, .int .i64 (i : Nat))] H'.heap H'.next H'.clk) e.length
  (zan (.cons rfl (.cons rfl (.cons rfl (.cons rfl .nil))))) ⟨0, H, rfl, y0t _, hI, Keep.refl M H, rfl⟩ ?_
 rintro m S ⟨i, H', rfl, hi, hI', hK', rfl⟩
 unfold b144_0
 refine zsr rfl ?_
 refine zaq rfl rfl rfl (fun h3 => ?_) fun h3 => ?_
 ·have hlt : i < e.length := by
   have := of_decide_eq_true h3
   omega
  repeat (first | refine za8 ?_ | refine za5 rfl ?_ | refine zai ?_ | refine zaa ?_ | refine zac ?_ | refine zab ?_ | refine zb4 rfl ?_ | refine za1 rfl ?_ | refine za7 rfl rfl ?_)
  refine zb6 (op := .shr) rfl rfl (shrE h1 h4 hlt) ?_
  refine zb6 (op := .and) rfl rfl (andE h1 h4 hlt) ?_
  refine zb6 (op := .eql) rfl rfl (eqE _) ?_
  refine zsb _ rfl rfl (hy i H' hlt hI') (fun _ _ _ _ hm => absurd hm y0d) fun v2 H3 hF3 => ?_
  obtain ⟨rfl, hK3, hI3⟩ := hF3
  refine zfr rfl rfl (onu (zb8 rfl (zab (zb7 (zaa (za5 rfl (zb6 (op := .add) rfl rfl rfl (za1 rfl (zai ?_)))))))))
  rw [zas i (by omega)]
  exact zav (show e.length - (i + 1) < e.length - i by omega) (zan (.cons rfl (.cons rfl (.cons rfl (.cons rfl .nil))))) ⟨i + 1, H3, rfl, hlt, hI3, hK'.trans hK3, rfl⟩
 ·have hi2 : i = e.length := by
   have := of_decide_eq_false h3
   omega
  subst hi2
  refine onu (za8 (zb8 rfl (zbm (zao ?_))))
  refine zcn ?_
  refine zbl ?_
  exact zaf ⟨.inl rfl, _, rfl, hK', hI'⟩
def zie (l : List Ex) (e : List Bool) (m : Nat) : List Sk := ((List.range m).filter fun i => zqe l e i).map fun i => ⟨(i : Nat), !(e.getD i false)⟩
def zu2 (l : List Ex) (e : List Bool) : List Sk := zie l e e.length
theorem zsa (l : List Ex) (e : List Bool) (m : Nat) : zie l e (m + 1) = zie l e m ++ (if zqe l e m then [⟨(m : Nat), !(e.getD m false)⟩] else []) := by
 unfold zie
 rw [List.range_succ, List.filter_append, y22]
 congr 1
 simp only [y1m, List.filter_nil]
 split <;> rfl
theorem zvj (l : List Ex) (e : List Bool) (m : Nat) : (zie l e m).length ≤ m := by
 unfold zie
 rw [y09]
 have := List.length_filter_le (fun i => zqe l e i) (List.range m)
 rwa [y20] at this
theorem zt9 (a : List Sk) (s : Sk) : (cSs (a ++ [s])).flatten = (cSs a).flatten ++ [.int .i64 s.a, .bool s.o] := by
 simp [cSs, cS]
theorem zjs (a : List Sk) : (cSs a).flatten.length = a.length * 2 := by
 induction a with
 | nil => rfl
 | cons s a ih =>
  have : (cSs (s :: a)).flatten = [.int .i64 s.a, .bool s.o] ++ (cSs a).flatten := rfl
  rw [this, y0j, ih, y0n]
  show 2 + a.length * 2 = (a.length + 1) * 2
  omega
theorem zut {S : AS} {d id sp : Nat} {cap : Option Nat} (a : List Sk) (hl : Am.look id S.heap = some (sp, .cells (cSs a).flatten)) : S.view (d + 1) (.ms id sp 2 0 a.length cap) = .vs (cSs a) := by
 have e : S.elems 2 (.ms id sp 2 0 a.length cap) = some (cSs a) := by
  obtain ⟨n, t, hp, nx, ck, mk⟩ := S
  exact zd7 (ys := []) (cap := cap) (n := n) (nx := nx) (ck := ck) (mk := mk) (l := []) (hp := hp) (by rw [y0p]; exact hl) (zc3 a) (fun x hx => by obtain ⟨s, _, rfl⟩ := y0o.1 hx; rfl)
 simp only [AS.view, e]
 congr 1
 unfold cSs
 rw [y1y]
 apply y1w
 intro s _
 cases d <;> rfl
noncomputable def zkq : Code := match env0.fn 101 with
 | some i => ((zbs i.ic)[0]?.getD (.skip, .skip)).1
 | none => .skip
noncomputable def zks : Code := match env0.fn 101 with
 | some i => ((zbs i.ic)[0]?.getD (.skip, .skip)).2
 | none => .skip
def znm : IC := .seq (.region [oT 8 13] none)
 (.region [oT 9 14] none)
def zsg : IC := .block 1 (.seq (.region [oL 15 1 3,
  oN 16 4,
  oN 17 5,
  oT 18 8,
  oM 19 (.call (.c (.fn 104 [] [])) [(.t 15), (.t 16), (.t 17), (.t 18)])] none)
 (.cond (.t 19) (.region [oN 20 7,
  oT 21 8,
  oT 22 9,
  oM 23 (.un .not (.t 22)),
  oM 24 (.build [.int .i64 0, .bool false] [(0, 1, (.t 21)), (1, 1, (.t 23))]),
  oM 25 (.bslice 2 1 [.int .i64 0, .bool false] [(0, 2, (.t 24))]),
  oM 26 (.append 2 16 [.int .i64 0, .bool false] (.t 20) (.t 25)),
  ⟨none, .store 1 (.t 7) (.t 26), none⟩] none)
 (.skip)))
-- pneumatic/homing.moves
noncomputable def ic101 : IC := .seq (.region [oM 3 (.box (.t 0)),
  oM 4 (.box (.t 1)),
  oM 5 (.box (.t 2)),
  oM 6 (.mov (.c (.nils)))] none)
 (.seq (.region [oM 7 (.alloc [.nils])] none)
 (.seq (.seq (.region [oN 10 4,
  oN 11 5,
  oM 12 (.call (.c (.fn 106 [] [])) [(.t 10), (.t 11)])] none)
 (.block 0 (.rangeFunc (.t 12) [13, 14] zkq zks znm zsg)))
 (.seq (.region [oN 27 7,
  oT 6 27] none)
 (.ret))))
theorem fn101 : env0.fn 101 = some ⟨28, ic101, [.t 6]⟩ := by kernel_rfl
structure I101 (l : List Ex) (e : List Bool) (ltm : List (Nat × AV)) (i : Nat) (H : HS) : Prop where
 nx : 4 ≤ H.next
 h3 : Am.look 3 H.heap = some (2, .loop .ready none 28 (zcz ltm) [13, 14] zkq zks (2, 1))
 h2 : Am.look 2 H.heap = some (1, .deferred)
 h0 : ∃ sp, Am.look 0 H.heap = some (0, .cells [.ms 1 sp 2 0 (zie l e i).length none]) ∧ Am.look 1 H.heap = some (sp, .cells (cSs (zie l e i)).flatten)
def l101 (l : List Ex) (e : List Bool) : List (Nat × AV) := [(3, .vptr [.vs (cXs l)]), (4, .vptr [.int .i64 (e.length : Nat)]), (5, .vptr [.int .i64 (zd9 e : Nat)]), (7, .mptr 0 0 0), (12, .fn 144 [] [.vptr [.int .i64 (e.length : Nat)], .vptr [.int .i64 (zd9 e : Nat)]])]
set_option maxHeartbeats 2000000 in
theorem yield101 {w0 : World} {N0 : Nat} {l : List Ex} (hsl : ∀ y ∈ l, Slim y) {e : List Bool} (h1 : 1 ≤ e.length) (h4 : e.length ≤ 4) (hg : zcc l e.length = 0) (ha : Com Try.prog zkq znm) (hb : Com Try.prog zks zsg) (i : Nat) (H : HS) (hi : i < e.length) (h : I101 l e (l101 l e) i H) :
  CT Try.prog w0 N0 (.yield 3 2) [.int .i64 (i : Nat), .bool (e.getD i false)] H fun v H' => v = .bool true ∧ Keep (fun j => j < 4) H H' ∧ I101 l e (l101 l e) (i + 1) H' := by
 obtain ⟨nx, h3, h2, sp, h0, h1'⟩ := h
 have hmay := may104 l hsl e h1 h4 hg i hi
 have hml := zvj l e i
 have hsc := zsa l e i
 refine zi1 (l0 := (14, .bool (e.getD i false)) :: (13, .int .i64 (i : Nat)) :: l101 l e) h3 ha hb rfl (by decide) rfl ?_
 unfold znm
 refine zsr rfl (za1 rfl (onR rfl (za1 rfl (zai ?_))))
 refine zaf ⟨rfl, _, rfl, ?_⟩
 unfold zsg l101
 refine zac (zsr rfl (zam rfl rfl rfl rfl (za7 rfl rfl (za7 rfl rfl (za1 rfl ?_)))))
 refine zap rfl rfl hmay noC ?_
 cases hbm : zqe l e i with
 | true =>
  rw [hbm, if_pos rfl] at hsc
  refine onu (zb4 rfl (za5 rfl ?_))
  refine zbk (sp := 0) rfl (by (repeat (first | rw [za0, if_pos rfl] | rw [za0, if_neg (by decide)] | rw [za3, if_neg (by decide)])); first | rfl | assumption) (by omega) rfl ?_
  refine za1 rfl (za1 rfl (zfr rfl rfl (zfd rfl rfl ?_)))
  refine zm1 [[.int .i64 (i : Nat), .bool (!(e.getD i false))]] rfl rfl rfl rfl ?_
  refine zbf [[.int .i64 (i : Nat), .bool (!(e.getD i false))]] rfl rfl rfl (fun h => Nat.noConfusion h) rfl (by decide) (by (repeat (first | rw [za0, if_pos rfl] | rw [za0, if_neg (by decide)] | rw [za3, if_neg (by decide)])); first | rfl | assumption) (zjs _).symm (by show _ + 1 ≤ _; omega) ?_
  refine zad (sp := 0) rfl rfl rfl rfl (by (repeat (first | rw [za0, if_pos rfl] | rw [za0, if_neg (by decide)] | rw [za3, if_neg (by decide)])); first | rfl | assumption) rfl rfl ?_
  refine zai (zb7 ?_)
  refine zaf ⟨28, zcz (l101 l e), [13, 14], zkq, zks, (2, 1), ?_, none, rfl, rfl, ⟨y0c _, y1a _, fun j hj _ => ?_⟩, nx, ?_, ?_, H.clk, ?_, ?_⟩
  ·show Am.look 3 (zax 0 _ (zax 1 _ (zax 3 _ H.heap))) = _
   exact (by (repeat (first | rw [za0, if_pos rfl] | rw [za0, if_neg (by decide)] | rw [za3, if_neg (by decide)])); first | rfl | assumption)
  ·show Am.look j (zax 3 _ (zax 0 _ (zax 1 _ (zax 3 _ H.heap)))) = _
   rw [za0, if_neg (by omega), za0, if_neg (by omega), za0, if_neg (by omega), za0, if_neg (by omega)]
  ·show Am.look 3 (zax 3 _ _) = _
   rw [za0, if_pos rfl]; rfl
  ·show Am.look 2 (zax 3 _ (zax 0 _ (zax 1 _ (zax 3 _ H.heap)))) = _
   exact (by (repeat (first | rw [za0, if_pos rfl] | rw [za0, if_neg (by decide)] | rw [za3, if_neg (by decide)])); first | rfl | assumption)
  ·show Am.look 0 (zax 3 _ (zax 0 _ (zax 1 _ (zax 3 _ H.heap)))) = _
   rw [hsc, y0j]
   exact (by (repeat (first | rw [za0, if_pos rfl] | rw [za0, if_neg (by decide)] | rw [za3, if_neg (by decide)])); first | rfl | assumption)
  ·show Am.look 1 (zax 3 _ (zax 0 _ (zax 1 _ (zax 3 _ H.heap)))) = _
   rw [hsc, zt9]
   exact (by (repeat (first | rw [za0, if_pos rfl] | rw [za0, if_neg (by decide)] | rw [za3, if_neg (by decide)])); first | rfl | assumption)
 | false =>
  rw [hbm, if_neg (by simp), y0p] at hsc
  refine onu (zb8 rfl (zab (zb7 ?_)))
  refine zaf ⟨28, zcz (l101 l e), [13, 14], zkq, zks, (2, 1), ?_, none, rfl, rfl, ⟨y0c _, y0c _, fun j hj _ => ?_⟩, nx, ?_, ?_, sp, ?_, ?_⟩
  ·show Am.look 3 (zax 3 _ H.heap) = _
   exact (by (repeat (first | rw [za0, if_pos rfl] | rw [za0, if_neg (by decide)] | rw [za3, if_neg (by decide)])); first | rfl | assumption)
  ·show Am.look j (zax 3 _ (zax 3 _ H.heap)) = _
   rw [za0, if_neg (by omega), za0, if_neg (by omega)]
  ·show Am.look 3 (zax 3 _ _) = _
   rw [za0, if_pos rfl]; rfl
  ·show Am.look 2 (zax 3 _ (zax 3 _ H.heap)) = _
   exact (by (repeat (first | rw [za0, if_pos rfl] | rw [za0, if_neg (by decide)] | rw [za3, if_neg (by decide)])); first | rfl | assumption)
  ·show Am.look 0 (zax 3 _ (zax 3 _ H.heap)) = _
   rw [hsc]
   exact (by (repeat (first | rw [za0, if_pos rfl] | rw [za0, if_neg (by decide)] | rw [za3, if_neg (by decide)])); first | rfl | assumption)
  ·show Am.look 1 (zax 3 _ (zax 3 _ H.heap)) = _
   rw [hsc]
   exact (by (repeat (first | rw [za0, if_pos rfl] | rw [za0, if_neg (by decide)] | rw [za3, if_neg (by decide)])); first | rfl | assumption)
set_option maxHeartbeats 2000000 in
theorem zu1 (l : List Ex) (hsl : ∀ y ∈ l, Slim y) (e : List Bool) (h1 : 1 ≤ e.length) (h4 : e.length ≤ 4) (hg : zcc l e.length = 0) :
  PF Try.prog 101 [.agg [.vs (cXs l)], .int .i64 (e.length : Nat), .int .i64 (zd9 e : Nat)] (.vs (cSs (zu2 l e))) := by
 refine zb1 env0_ok fn101 [(0, .agg [.vs (cXs l)]), (1, .int .i64 (e.length : Nat)), (2, .int .i64 (zd9 e : Nat))] (by show 3 ≤ 28; decide) rfl fun w0 N0 => ?_
 unfold ic101
 repeat (first | refine za8 ?_ | refine za5 rfl ?_ | refine zai ?_ | refine zaa ?_ | refine za1 rfl ?_ | refine za7 rfl rfl ?_ | refine zau ?_ | refine zc1 rfl rfl ?_)
 refine zap rfl rfl (bits106 _ _) noC ?_
 refine onu (zac ?_)
 refine zeg [(some (3, 3), [.ms 1 0 2 0 0 none]), (none, [])] [(0, 0, [.vs (cXs l)]), (1, 1, [.int .i64 (e.length : Nat)]), (2, 2, [.int .i64 (zd9 e : Nat)])] (l101 l e) rfl (.cons rfl rfl (.cons rfl rfl (.cons rfl rfl .nil))) (.cons rfl (.cons (.grow rfl) .nil) (.new .nil)) (.cons rfl (.fptr rfl rfl) (.cons rfl (.fptr rfl rfl) (.cons rfl (.fptr rfl rfl) (.cons rfl (.mptr rfl) (.cons rfl (.same rfl) .nil))))) ?_
 refine zgu (.inl rfl) rfl fun ha hb => (range144 h1 h4 (fun i H hi h => yield101 hsl h1 h4 hg ha hb i H hi h) ⟨_, _, _⟩ ⟨y0c _, rfl, rfl, 0, rfl, rfl⟩).mono fun v H2 hF => ?_
 obtain ⟨hK, nx, h3, h2, sp, h0, h1'⟩ := hF
 refine ⟨_, _, .normal, _, _, _, _, _, _, h3, by simp, rfl, fun z hz => ?_, ?_⟩
 ·obtain rfl := y0e.1 hz
  exact (by (repeat (first | rw [za0, if_pos rfl] | rw [za0, if_neg (by decide)] | rw [za3, if_neg (by decide)])); first | rfl | assumption)
 ·refine zb7 (zaa (zsr rfl ?_))
  refine zbk (sp := 0) rfl (by (repeat (first | rw [za0, if_pos rfl] | rw [za0, if_neg (by decide)] | rw [za3, if_neg (by decide)])); first | rfl | assumption) (by omega) rfl ?_
  refine za1 rfl (onu (zak ?_))
  refine zaf ⟨.inr rfl, _, rfl, zut (d := 3) (zu2 l e) ?_⟩
  show Am.look 1 (zbe 2 (zbe 3 H2.heap)) = _
  exact (by (repeat (first | rw [za0, if_pos rfl] | rw [za0, if_neg (by decide)] | rw [za3, if_neg (by decide)])); first | rfl | assumption)
theorem cSs_hasM (a : List Sk) : hasM.hasML (cSs a).flatten = false := by
 induction a with
 | nil => rfl
 | cons s a ih =>
  have : (cSs (s :: a)).flatten = .int .i64 s.a :: .bool s.o :: (cSs a).flatten := rfl
  rw [this]
  simp only [hasM.hasML, ih]
  rfl
def zbw (n k : Nat) : List Bool := (List.range n).map fun i => k / 2 ^ i % 2 == 1
theorem zca (n k : Nat) : (zbw n k).length = n := by rw [zbw, y09, y20]
theorem zx4 : ∀ n ∈ [1, 2, 3, 4], ∀ k ∈ List.range 16, k < 2 ^ n → zd9 (zbw n k) = k := by decide +kernel
theorem n4 {n : Nat} (h1 : 1 ≤ n) (h4 : n ≤ 4) : n ∈ [1, 2, 3, 4] := by
 rcases (show n = 1 ∨ n = 2 ∨ n = 3 ∨ n = 4 by omega) with rfl | rfl | rfl | rfl <;> simp
theorem pow4 {n : Nat} (h4 : n ≤ 4) : 2 ^ n ≤ 16 := Nat.pow_le_pow_right (by decide) h4
theorem zfx {n k : Nat} (h1 : 1 ≤ n) (h4 : n ≤ 4) (hk : k < 2 ^ n) : zd9 (zbw n k) = k :=
 zx4 n (n4 h1 h4) k (y10.2 (by have := pow4 h4; omega)) hk
theorem zvf : ∀ e ∈ allE, zd9 e < 2 ^ e.length := by decide +kernel
theorem zpi : ∀ e ∈ allE, zbw e.length (zd9 e) = e := by decide +kernel
theorem ztp {e : List Bool} (h1 : 1 ≤ e.length) (h4 : e.length ≤ 4) : zd9 e < 2 ^ e.length := zvf e (zdi e h1 h4)
theorem zt7 {e : List Bool} (h1 : 1 ≤ e.length) (h4 : e.length ≤ 4) : zbw e.length (zd9 e) = e := zpi e (zdi e h1 h4)
def nxt (n k i : Nat) : Nat := zd9 (zcq (zbw n k) i)
theorem zmz {n k i : Nat} (h1 : 1 ≤ n) (h4 : n ≤ 4) : nxt n k i < 2 ^ n := by
 have := ztp (e := zcq (zbw n k) i) (by rw [zd8, zca]; exact h1) (by rw [zd8, zca]; exact h4)
 rwa [zd8, zca] at this
theorem znn {n k i : Nat} (h1 : 1 ≤ n) (h4 : n ≤ 4) : zbw n (nxt n k i) = zcq (zbw n k) i := by
 have := zt7 (e := zcq (zbw n k) i) (by rw [zd8, zca]; exact h1) (by rw [zd8, zca]; exact h4)
 rwa [zd8, zca] at this
def mv (l : List Ex) (n k : Nat) : List Nat := (List.range n).filter fun i => zqe l (zbw n k) i
theorem zz9 {l : List Ex} {n k i : Nat} (h : i ∈ mv l n k) : i < n := y10.1 (y1s.1 h).1
theorem zu3 (l : List Ex) (n k : Nat) : zu2 l (zbw n k) = (mv l n k).map fun i => ⟨(i : Nat), !((zbw n k).getD i false)⟩ := by
 unfold zu2 zie mv
 rw [zca]
def push (n k : Nat) (s : List Int × List Nat) (i : Nat) : List Int × List Nat :=
 if s.1.getD (nxt n k i) 0 < 0 then (s.1.set (nxt n k i) (s.1.getD k 0 + 1), s.2 ++ [nxt n k i]) else s
def zff (l : List Ex) (n k : Nat) (s : List Int × List Nat) : List Int × List Nat := (mv l n k).foldl (push n k) s
def bfs (l : List Ex) (n : Nat) : Nat → List Int × List Nat → List Int
 | 0, s => s.1
 | _ + 1, (out, []) => out
 | f + 1, (out, k :: q) => bfs l n f (zff l n k (out, q))
def zok (l : List Ex) (n : Nat) : List Int := if zdw l (zdn (zbw n 0)) then bfs l n (2 ^ n + 1) ((List.replicate (2 ^ n) (-1)).set 0 0, [0]) else List.replicate (2 ^ n) (-1)
def zen (out : List Int) : Nat := (out.filter fun v => v < 0).length
theorem zu7 {v : Int} (hv : 0 ≤ v) : ∀ (out : List Int) (y : Nat), out.getD y 0 < 0 → zen (out.set y v) + 1 = zen out
 | [], y, h => by simp at h
 | a :: out, 0, h => by
  have h : a < 0 := by simpa using h
  unfold zen
  rw [List.set_cons_zero, y1m, y1m, if_neg (by simpa using hv), if_pos (by simpa using h)]
  rfl
 | a :: out, y + 1, h => by
  have h : out.getD y 0 < 0 := by simpa using h
  have ih := zu7 hv out y h
  unfold zen at ih ⊢
  rw [List.set_cons_succ, y1m, y1m]
  split
  ·simp only [y0n]; omega
  ·exact ih
structure BI (n : Nat) (s : List Int × List Nat) : Prop where
 len : s.1.length = 2 ^ n
 q : ∀ y ∈ s.2, y < 2 ^ n ∧ 0 ≤ s.1.getD y 0
 lo : ∀ v ∈ s.1, -1 ≤ v
 hi : ∀ v ∈ s.1, v + zen s.1 + 1 ≤ ((2 ^ n : Nat) : Int)
 ql : s.2.length ≤ 2 ^ n
theorem zk0 {out : List Int} {y : Nat} (h : y < out.length) : out.getD y 0 ∈ out := by
 rw [y06, y07 h]
 exact y0y h
theorem ze6 {out : List Int} {y z : Nat} {v : Int} (hy : y < out.length) : (out.set y v).getD z 0 = if y = z then v else out.getD z 0 := by
 simp only [y06, List.getElem?_set]
 split
 ·rename_i h; subst h; simp
 ·rfl
theorem zoy {n k i : Nat} (h1 : 1 ≤ n) (h4 : n ≤ 4) (hk : k < 2 ^ n) {s : List Int × List Nat} (h : BI n s) (hk0 : 0 ≤ s.1.getD k 0) (hm : s.2.length + zen s.1 ≤ 2 ^ n) :
  BI n (push n k s i) ∧ 0 ≤ (push n k s i).1.getD k 0 ∧ (push n k s i).2.length + zen (push n k s i).1 = s.2.length + zen s.1 := by
 unfold push
 split
 ·rename_i hn
  have hy := zmz (k := k) (i := i) h1 h4
  have hyl : nxt n k i < s.1.length := by rw [h.len]; exact hy
  have hkm := zk0 (y := k) (by rw [h.len]; exact hk)
  have hv : (0 : Int) ≤ s.1.getD k 0 + 1 := by omega
  have hneg := zu7 hv s.1 (nxt n k i) hn
  have hki := h.hi _ hkm
  refine ⟨⟨by rw [y1c]; exact h.len, fun y hy' => ?_, fun v hv' => ?_, fun v hv' => ?_, ?_⟩, ?_, ?_⟩
  ·rcases List.mem_append.1 hy' with hq | hq
   ·have := h.q y hq
    refine ⟨this.1, ?_⟩
    rw [ze6 hyl]
    split
    ·exact hv
    ·exact this.2
   ·obtain rfl := y0e.1 hq
    refine ⟨hy, ?_⟩
    rw [ze6 hyl, if_pos rfl]
    exact hv
  ·rcases List.mem_or_eq_of_mem_set hv' with hq | hq
   ·exact h.lo v hq
   ·omega
  ·show v + ((zen (s.1.set _ _) : Nat) : Int) + 1 ≤ _
   rcases List.mem_or_eq_of_mem_set hv' with hq | hq
   ·have := h.hi v hq; omega
   ·omega
  ·show (s.2 ++ [nxt n k i]).length ≤ _
   rw [y0j, y17]
   omega
  ·show 0 ≤ (s.1.set (nxt n k i) (s.1.getD k 0 + 1)).getD k 0
   rw [ze6 hyl]
   split
   ·exact hv
   ·exact hk0
  ·show (s.2 ++ [nxt n k i]).length + zen (s.1.set (nxt n k i) (s.1.getD k 0 + 1)) = _
   rw [y0j, y17]
   omega
 ·exact ⟨h, hk0, rfl⟩
-- (*pneumatic/homing.queue[int]).put
def ic141 : IC := .region [oT 4 0,
  oT 5 0,
  oM 6 (.nilchk (.t 5)),
  oF 7 0 6,
  oN 8 7,
  oT 9 1,
  oM 10 (.bslice 1 1 [.int .i64 0] [(0, 1, (.t 9))]),
  oM 11 (.append 1 8 [.int .i64 0] (.t 8) (.t 10)),
  oM 12 (.nilchk (.t 4)),
  oF 13 0 12,
  ⟨none, .store 1 (.t 13) (.t 11), none⟩] none
theorem fn141 : env0.fn 141 = some ⟨14, ic141, []⟩ := by kernel_rfl
theorem put141 {w0 : World} {N0 a sa : Nat} {qid sq off len : Nat} {cs : List AV} (x : Int) (H : HS) (ha : Am.look a H.heap = some (sa, .cells [.ms qid sq 1 off len none])) (hn : a < H.next) (hq : Am.look qid H.heap = some (sq, .cells cs)) (hne : a ≠ qid) (h1 : off + len ≤ cs.length) (h2 : len + 1 ≤ 1048576) :
  FT Try.prog w0 N0 141 [.mptr a sa 0, .int .i64 x] H fun _ H' => H' = ⟨zax a (sa, .cells [.ms qid H.clk 1 0 (len + 1) none]) (zax qid (H.clk, .cells ((cs.drop off).take len ++ [.int .i64 x])) H.heap), H.next, H.clk + 1⟩ := by
 refine zep env0_ok fn141 [(0, .mptr a sa 0), (1, .int .i64 x)] (by show 2 ≤ 14; decide) rfl ?_
 unfold ic141
 refine za5 rfl (za1 rfl (za1 rfl (zjt rfl (za9 rfl ?_))))
 refine zbk (sp := sa) rfl ha hn rfl ?_
 refine za1 rfl ?_
 refine zm1 [[.int .i64 x]] rfl rfl rfl rfl ?_
 refine zqg [[.int .i64 x]] rfl rfl rfl (fun h => Nat.noConfusion h) rfl (by decide) hq (by rw [Nat.mul_one]; exact h1) h2 ?_
 refine zjt rfl (za9 rfl ?_)
 refine zad (sp := sa) rfl rfl rfl rfl (by rw [za0, if_neg (fun e => hne e.symm)]; exact ha) rfl rfl ?_
 refine zai ?_
 refine zaf ⟨.inl rfl, _, rfl, ?_⟩
 rw [Nat.mul_one]
 rfl
theorem put141n {w0 : World} {N0 a sa : Nat} (x : Int) (H : HS) (ha : Am.look a H.heap = some (sa, .cells [.nils])) (hn : a < H.next) :
  FT Try.prog w0 N0 141 [.mptr a sa 0, .int .i64 x] H fun _ H' => H' = ⟨zax a (sa, .cells [.ms H.next H.clk 1 0 1 none]) ((H.next, H.clk, .cells [.int .i64 x]) :: H.heap), H.next + 1, H.clk + 1⟩ := by
 refine zep env0_ok fn141 [(0, .mptr a sa 0), (1, .int .i64 x)] (by show 2 ≤ 14; decide) rfl ?_
 unfold ic141
 refine za5 rfl (za1 rfl (za1 rfl (zjt rfl (za9 rfl ?_))))
 refine zbk (sp := sa) rfl ha hn rfl ?_
 refine za1 rfl ?_
 refine zm1 [[.int .i64 x]] rfl rfl rfl rfl ?_
 refine zoo rfl rfl rfl rfl (zjt rfl (za9 rfl ?_))
 refine zad (sp := sa) rfl rfl rfl rfl (by show Am.look a ((H.next, _, _) :: H.heap) = _; rw [za2, if_neg (by omega)]; exact ha) rfl rfl ?_
 refine zai ?_
 exact zaf ⟨.inl rfl, _, rfl, rfl⟩
-- (*pneumatic/homing.queue[int]).all
def ic142 : IC := .seq (.region [oM 1 (.box (.t 0)),
  oM 2 (.mov (.c (.nilf)))] none)
 (.seq (.region [oM 3 (.mkfn 161 [] [(.t 1)]),
  oT 2 3] none)
 (.ret))
theorem fn142 : env0.fn 142 = some ⟨4, ic142, [.t 2]⟩ := by kernel_rfl
theorem all142 {w0 : World} {N0 a sa : Nat} (H : HS) : FT Try.prog w0 N0 142 [.mptr a sa 0] H fun v H' => v = .fn 161 [] [.mptr H.next H.clk 0] ∧ H' = ⟨(H.next, H.clk, .cells [.mptr a sa 0]) :: H.heap, H.next + 1, H.clk + 1⟩ := by
 refine zep env0_ok fn142 [(0, .mptr a sa 0)] (by show 1 ≤ 4; decide) rfl ?_
 unfold ic142
 refine zsr rfl (zc1 rfl rfl (za1 rfl (onr rfl (zfk rfl rfl (za1 rfl (onu (zak ?_)))))))
 exact zaf ⟨.inr rfl, _, rfl, rfl, rfl⟩
end Go.Proofs.Ytoiblgbaeglgoaa
