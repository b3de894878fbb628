/-
  DANGERS: guard.Danger.
-/
import Derived.Test.YtoiblgbaeglgoaaXS16
import Derived.Test.YtoiblgbaeglgoaaXS9
import Derived.Test.YtoiblgbaeglgoaaXA10
namespace Go.Proofs.Ytoiblgbaeglgoaa
open Go Go.Am
def ownZ : List (List AV × List AV) := [1, 2, 3, 4].map fun n => ([vsI [0], .int .i64 ((n : Nat) : Int)], (List.replicate n 0).map (AV.int .i64))
theorem znf : ownRun Try.prog (env0.tab [] []) 80 81 some ownZ = true := by kernel_rfl
theorem rep0 {n : Nat} (h1 : 1 ≤ n) (h4 : n ≤ 4) : PFo Try.prog 81 [vsI [0], .int .i64 ((n : Nat) : Int)] 1 n (some n) ((List.replicate n 0).map (AV.int .i64)) := by
 rcases (show n = 1 ∨ n = 2 ∨ n = 3 ∨ n = 4 by omega) with rfl | rfl | rfl | rfl
 ·exact zjb (env0_ok.tab TabOk.nil) znf _ (List.mem_cons_self ..)
 ·exact zjb (env0_ok.tab TabOk.nil) znf _ (List.mem_cons_of_mem _ (List.mem_cons_self ..))
 ·exact zjb (env0_ok.tab TabOk.nil) znf _ (List.mem_cons_of_mem _ (List.mem_cons_of_mem _ (List.mem_cons_self ..)))
 ·exact zjb (env0_ok.tab TabOk.nil) znf _ (List.mem_cons_of_mem _ (List.mem_cons_of_mem _ (List.mem_cons_of_mem _ (List.mem_cons_self ..))))
theorem zup (m : Nat) : enE (List.replicate m false) = List.replicate m 0 := List.map_replicate ..
theorem zk6 : ∀ l : List Int, flat.flatL (l.map (AV.int .i64)) = true
 | [] => rfl
 | z :: l => by
  have := zk6 l
  show (flat _ && flat.flatL _) = true
  rw [this]
  rfl
theorem zly {S : AS} {a b c d : Nat} {pa pb pc pd va vb vc vd : AV} {ra rb rc rd : List AV} (h1 : S.get a = some pa) (d1 : S.deref pa = some (va :: ra)) (h2 : S.get b = some pb) (d2 : S.deref pb = some (vb :: rb)) (h3 : S.get c = some pc) (d3 : S.deref pc = some (vc :: rc)) (h4 : S.get d = some pd) (d4 : S.deref pd = some (vd :: rd)) :
  S.res [.cell a none, .cell b none, .cell c none, .cell d none] = some (.tup [va, vb, vc, vd]) := by
 simp [AS.res, AS.resL, zsn, h1, h2, h3, h4, d1, d2, d3, d4]
theorem zft : ∀ (ms : List (Nat × Nat)) (hp : List (Nat × Nat × AObj)) (k : Nat), (∀ z ∈ ms, z.1 ≠ k) → Am.look k (zh5 ms hp) = Am.look k hp
 | [], _, _, _ => rfl
 | z :: ms, hp, k, h => by
  rw [zo3, zft ms _ k fun y hy => h y (List.mem_cons_of_mem _ hy), zae, if_neg (h z (List.mem_cons_self ..))]
def J18s (f : List Ex) (m : Nat) (l : List Sp) (mm : Nat) (S : AS) : Prop := ∃ i q, mm = l.length - i ∧ i ≤ l.length ∧ dgS f 0 (List.replicate m false) l = dgS f i (zg7 (List.replicate m false) (l.take i)) (l.drop i) ∧
 S = st 97 [(2, .vptr [.vs (cXs f)]), (3, .vptr [.int .i64 (m : Nat), .vs (cPs l)]), (4, .mptr 0 0 0), (5, .mptr 1 0 0), (6, .mptr 2 0 0), (7, .mptr 3 0 0), (10, .ms 4 0 1 0 m (some m)), (38, .vs (cPs l)), (39, .int .i64 (cPs l).length), (40, .int .i64 (i : Nat))] (zc9 0 (lv5 (zg7 (List.replicate m false) (l.take i))) ++ zcc 5 q) (q + 5) 1 (ze5 5 q)
section
variable {w0 : World} {N0 : Nat} {k : List Fr} {Q : Exit → AS → Prop}
set_option maxHeartbeats 4000000 in
theorem round18 {f : List Ex} (hsl : ∀ y ∈ f, Slim y) {m : Nat} (hg : zdd f m = 0) (m4 : m ≤ 4) {l : List Sp} (ok : SeqOk m l) (mm : Nat) (S : AS) (hJ : J18s f m l mm S)
  (fin : ∀ l' hp nx ck mk, dgS f 0 (List.replicate m false) l = (0, [], false) → zc8 4 l' = some (.mptr 0 0 0) → zc8 5 l' = some (.mptr 1 0 0) → zc8 6 l' = some (.mptr 2 0 0) → zc8 7 l' = some (.mptr 3 0 0) → 5 ≤ nx → (∀ z ∈ mk, 5 ≤ z.1) → Am.look 0 hp = some (0, .cells [.int .i64 0]) → Am.look 1 hp = some (0, .cells [.nils]) → Am.look 2 hp = some (0, .cells [.bool false]) → Am.look 3 hp = some (0, .cells [.int .i64 0]) → Um Try.prog w0 N0 none (.exit 0) (st 97 l' hp nx ck mk) k Q)
  (ret : ∀ l' (i : Nat) p hp nx ck mk, dgS f 0 (List.replicate m false) l = ((i : Int), p, true) → zc8 4 l' = some (.mptr 0 0 0) → zc8 5 l' = some (.mptr 1 0 0) → zc8 6 l' = some (.mptr 2 0 0) → zc8 7 l' = some (.mptr 3 0 0) → 5 ≤ nx → (∀ z ∈ mk, 5 ≤ z.1) → Am.look 0 hp = some (0, .cells [.int .i64 (i : Nat)]) → Am.look 1 hp = some (0, .cells [vsI p]) → Am.look 2 hp = some (0, .cells [.bool true]) → Am.look 3 hp = some (0, .cells [.int .i64 0]) → Um Try.prog w0 N0 none .ret (st 97 l' hp nx ck mk) k Q) :
  Zm Try.prog w0 N0 none b18_0 S [] (zl5 w0 N0 none (J18s f m l) mm (unw Try.prog w0 N0 none k Q)) := by
 obtain ⟨i, q, rfl, hi, hall, rfl⟩ := hJ
 have l64 := ok.l64
 have hcl : (cPs l).length = l.length := zdb l
 unfold b18_0
 repeat (first | refine za6 ?_ | refine za0 rfl ?_)
 refine zar rfl rfl rfl (fun h3 => ?_) fun h3 => ?_
 ·have hlt : i < l.length := by
   have := of_decide_eq_true h3
   rw [hcl] at this
   omega
  have hst := ok.step hlt
  have hEl := SeqOk.behLen (n := m) (l := l) i
  have htk := zjs (E := List.replicate m false) hlt
  rw [dgS_step (n := m) (List.replicate m false) (List.length_replicate ..) hlt] at hall
  have hfit := zuu hst (by rw [hEl])
  have hstat := hst.stat (by rw [hEl])
  rw [hEl] at hfit hstat
  have hq := hst.len
  have h1 := ok.n1
  have hg' := zh4 hlt
  generalize hE : zg7 (List.replicate m false) (l.take i) = E at *
  generalize hE2 : zg7 (List.replicate m false) (l.take (i + 1)) = E2 at *
  generalize l[i] = p at *
  obtain ⟨sk, w⟩ := p
  have hg' : (cPs l)[((i : Nat) : Int).toNat]? = some [.vs (cSs sk), .int .i64 w] := hg'
  have hfit : Fit18 m (chA E) (List.replicate m (some 1)) E sk := hfit
  have hstat : chS (chA E) sk = zey E (aft E sk) sk m := hstat
  have htk : E2 = aft E sk := htk
  have hq : sk.length ≤ 6 := hq
  have hall : dgS f 0 (List.replicate m false) l = match badP f (zdr (zey E (aft E sk) sk m)) with
   | some q => ((i : Int), q, true)
   | none => dgS f (i + 1) E2 (l.drop (i + 1)) := hall
  repeat (first | refine za6 ?_ | refine za0 rfl ?_ | refine za3 ?_ | refine za2 ?_ | refine zad ?_ | refine zab ?_ | refine zb0 rfl ?_ | refine za4 rfl ?_ | refine zas rfl rfl rfl rfl ?_ | refine zax ?_ | refine zb1 rfl rfl (by omega) (by assumption) rfl ?_)
  refine zal (sp := 1) rfl rfl rfl rfl (by (repeat (first | rw [za1, if_neg (by omega)] | rw [za1, if_pos rfl] | rw [za7, if_neg (by omega)] | rw [za7, if_pos rfl])); try rfl) rfl rfl ?_
  refine zal (sp := 2) rfl rfl rfl rfl (by (repeat (first | rw [za1, if_neg (by omega)] | rw [za1, if_pos rfl] | rw [za7, if_neg (by omega)] | rw [za7, if_pos rfl])); try rfl) rfl rfl ?_
  refine za3 (za2 ?_)
  refine zq (zan q 5) [(some (0, 0), [.int .i64 0]), (some (1, 0), [.nils]), (some (2, 0), [.bool false]), (some (3, 0), [.int .i64 0]), (some (4, 0), (enE E).map (AV.int .i64))] [(q + 5, 1, [.int .i64 (i : Nat)]), (q + 5 + 1, 2, [.vs (cSs sk), .int .i64 w])] [(2, .vptr [.vs (cXs f)]), (3, .vptr [.int .i64 (m : Nat), .vs (cPs l)]), (4, .mptr 0 0 0), (5, .mptr 1 0 0), (6, .mptr 2 0 0), (7, .mptr 3 0 0), (10, .ms 4 0 1 0 m (some m)), (38, .vs (cPs l)), (39, .int .i64 (cPs l).length), (40, .int .i64 (i : Nat)), (11, .vptr [.int .i64 (i : Nat)]), (12, .vptr [.vs (cSs sk), .int .i64 w])] rfl (.cons (by (repeat (first | rw [za1, if_neg (by omega)] | rw [za1, if_pos rfl] | rw [za7, if_neg (by omega)] | rw [za7, if_pos rfl])); try rfl) rfl (.cons (by (repeat (first | rw [za1, if_neg (by omega)] | rw [za1, if_pos rfl] | rw [za7, if_neg (by omega)] | rw [za7, if_pos rfl])); try rfl) rfl .nil)) (.cons (by (repeat (first | rw [za1, if_neg (by omega)] | rw [za1, if_pos rfl] | rw [za7, if_neg (by omega)] | rw [za7, if_pos rfl])); try rfl) (.keep rfl) (.cons (by (repeat (first | rw [za1, if_neg (by omega)] | rw [za1, if_pos rfl] | rw [za7, if_neg (by omega)] | rw [za7, if_pos rfl])); try rfl) (.keep rfl) (.cons (by (repeat (first | rw [za1, if_neg (by omega)] | rw [za1, if_pos rfl] | rw [za7, if_neg (by omega)] | rw [za7, if_pos rfl])); try rfl) (.keep rfl) (.cons (by (repeat (first | rw [za1, if_neg (by omega)] | rw [za1, if_pos rfl] | rw [za7, if_neg (by omega)] | rw [za7, if_pos rfl])); try rfl) (.keep rfl) (.cons (by (repeat (first | rw [za1, if_neg (by omega)] | rw [za1, if_pos rfl] | rw [za7, if_neg (by omega)] | rw [za7, if_pos rfl])); try rfl) (.keep (zai _)) .nil))))) (.cons rfl (.same rfl) (.cons rfl (.same rfl) (.cons rfl (.mptr rfl) (.cons rfl (.mptr rfl) (.cons rfl (.mptr rfl) (.cons rfl (.mptr rfl) (.cons rfl (.ms rfl) (.cons rfl (.same rfl) (.cons rfl (.same rfl) (.cons rfl (.same rfl) (.cons rfl (.fptr (by simp [fzl]) rfl) (.cons rfl (.fptr (by simp [fzl, show Nat.beq 1 2 = false from rfl]) rfl) .nil)))))))))))) ?_
  refine zub f m l i sk hq w E m hEl h1 m4 q hfit ?_
  rw [hstat, ← htk]
  rw [← htk] at hall
  have hrow := zjz (zey E E2 sk m)
  rw [zdy] at hrow
  have hCl := zdy E E2 sk m
  have hCn : ∀ c ∈ zey E E2 sk m, c ≠ [] ∧ c.length ≤ 3 := statL_ne
  generalize zey E E2 sk m = C at *
  have hmk0 : zdn (ze5 5 q) (zc9 0 (lv5 E2) ++ zcc 5 q) := fun z hz => by
   obtain ⟨z1, z2, z3⟩ := zgs hz
   show Am.look z.1 ((0, _) :: (1, _) :: (2, _) :: (3, _) :: (4, _) :: zcc 5 q) = _
   rw [za7, if_neg (by omega), za7, if_neg (by omega), za7, if_neg (by omega), za7, if_neg (by omega), za7, if_neg (by omega), zgq, if_pos ⟨z1, z2⟩, z3]
  repeat (first | refine za6 ?_ | refine za0 rfl ?_ | refine za4 rfl ?_)
  refine zau rfl rfl (comb52 C) (fun h => Bool.noConfusion (show false = true from h)) ?_ hmk0
  refine za3 (za2 (zad ?_))
  refine zq (zan q 5) [(some (0, 0), [.int .i64 0]), (some (1, 0), [.nils]), (some (2, 0), [.bool false]), (some (3, 0), [.int .i64 0]), (some (4, 0), (enE E2).map (AV.int .i64))] [] (l18 f m l m i (.fn 130 [] [.vptr [css C]])) rfl .nil (.cons (by (repeat (first | rw [za1, if_neg (by omega)] | rw [za1, if_pos rfl] | rw [za7, if_neg (by omega)] | rw [za7, if_pos rfl])); try rfl) (.keep rfl) (.cons (by (repeat (first | rw [za1, if_neg (by omega)] | rw [za1, if_pos rfl] | rw [za7, if_neg (by omega)] | rw [za7, if_pos rfl])); try rfl) (.keep rfl) (.cons (by (repeat (first | rw [za1, if_neg (by omega)] | rw [za1, if_pos rfl] | rw [za7, if_neg (by omega)] | rw [za7, if_pos rfl])); try rfl) (.keep rfl) (.cons (by (repeat (first | rw [za1, if_neg (by omega)] | rw [za1, if_pos rfl] | rw [za7, if_neg (by omega)] | rw [za7, if_pos rfl])); try rfl) (.keep rfl) (.cons (by (repeat (first | rw [za1, if_neg (by omega)] | rw [za1, if_pos rfl] | rw [za7, if_neg (by omega)] | rw [za7, if_pos rfl])); try rfl) (.keep (zai _)) .nil))))) (.cons rfl (.same rfl) (.cons rfl (.same rfl) (.cons rfl (.same rfl) (.cons rfl (.mptr rfl) (.cons rfl (.mptr rfl) (.cons rfl (.mptr rfl) (.cons rfl (.mptr rfl) (.cons rfl (.ms rfl) (.cons rfl (.same rfl) (.cons rfl (.same rfl) (.cons rfl (.same rfl) (.cons rfl (.same rfl) .nil)))))))))))) ?_
  show Zm _ _ _ _ _ (st _ _ _ (q + 5) 1 (ze5 5 q)) _ _
  refine znu (.inl rfl) rfl fun hA hB => (range80 (local18 (D := q + 5) (by omega) (enE E2) (l18 f m l m i (.fn 130 [] [.vptr [css C]]))) (fun s p H hp h => yield18 (D := q + 5) (by omega) hsl hg m l i (.fn 130 [] [.vptr [css C]]) (enE E2) hA hB s p H hp h) C (by omega) (fun c hc => ⟨(hCn c hc).1, by have := (hCn c hc).2; omega⟩) ⟨_, _, _⟩ () ?_ (zjo _ _ hrow)).mono fun v H2 hF => ?_
  ·refine ⟨Nat.le_refl _, ?_, ?_, ?_, ?_, ?_, ?_, ?_⟩
   ·exact zaz
   ·exact (zbt (Nat.lt_succ_self _)).trans zaz
   ·show Am.look 0 ((q + 5 + 1, _) :: (q + 5, _) :: (0, _) :: _) = _
    exact (by (repeat (first | rw [za7, if_pos rfl] | rw [za7, if_neg (by omega)])); try rfl)
   ·show Am.look 1 ((q + 5 + 1, _) :: (q + 5, _) :: (0, _) :: (1, _) :: _) = _
    exact (by (repeat (first | rw [za7, if_pos rfl] | rw [za7, if_neg (by omega)])); try rfl)
   ·show Am.look 2 ((q + 5 + 1, _) :: (q + 5, _) :: (0, _) :: (1, _) :: (2, _) :: _) = _
    exact (by (repeat (first | rw [za7, if_pos rfl] | rw [za7, if_neg (by omega)])); try rfl)
   ·show Am.look 3 ((q + 5 + 1, _) :: (q + 5, _) :: (0, _) :: (1, _) :: (2, _) :: (3, _) :: _) = _
    exact (by (repeat (first | rw [za7, if_pos rfl] | rw [za7, if_neg (by omega)])); try rfl)
   ·show Am.look 4 ((q + 5 + 1, _) :: (q + 5, _) :: (0, _) :: (1, _) :: (2, _) :: (3, _) :: (4, _) :: _) = _
    exact (by (repeat (first | rw [za7, if_pos rfl] | rw [za7, if_neg (by omega)])); try rfl)
  obtain ⟨hK, hF⟩ := hF
  rw [zlh] at hF
  have hold : ∀ z ∈ ze5 5 q, Am.look z.1 H2.heap = some (z.2, .deferred) := fun z hz => by
   obtain ⟨z1, z2, z3⟩ := zgs hz
   refine (hK.look z.1 (fun h => by rcases h with h | h | h <;> omega) (by show z.1 < q + 5 + 2; omega)).trans ?_
   show Am.look z.1 ((q + 5 + 1, _) :: (q + 5, _) :: (0, _) :: (1, _) :: (2, _) :: (3, _) :: (4, _) :: zcc 5 q) = _
   rw [za7, if_neg (by omega), za7, if_neg (by omega), za7, if_neg (by omega), za7, if_neg (by omega), za7, if_neg (by omega), za7, if_neg (by omega), za7, if_neg (by omega), zgq, if_pos ⟨z1, z2⟩, z3]
  have hmk : Am.look (q + 5) H2.heap = some (1, .deferred) → zdn ((q + 5, 1) :: ze5 5 q) (zc4 (q + 5 + 1) H2.heap) := fun h1 z hz => by
   rcases List.mem_cons.1 hz with rfl | hz
   ·rw [zae, if_neg (by omega)]; exact h1
   ·have := zgs hz
    rw [zae, if_neg (by omega)]; exact hold z hz
  cases hb : badP f (zdr C) with
  | none =>
   rw [hb] at hF hall
   obtain ⟨nx, h4, h3, r0, r1, r2, r3, he⟩ := hF
   refine ⟨_, _, .normal, _, _, _, _, _, _, h4, by simp, rfl, hmk h3, ?_⟩
   refine zb6 (zb6 (za2 ?_))
   refine zq (q := q + 1) (by rw [List.length_cons, zan]) [(some (0, 0), [.int .i64 0]), (some (1, 0), [.nils]), (some (2, 0), [.bool false]), (some (3, 0), [.int .i64 0]), (some (4, 0), (enE E2).map (AV.int .i64))] [] [(2, .vptr [.vs (cXs f)]), (3, .vptr [.int .i64 (m : Nat), .vs (cPs l)]), (4, .mptr 0 0 0), (5, .mptr 1 0 0), (6, .mptr 2 0 0), (7, .mptr 3 0 0), (10, .ms 4 0 1 0 m (some m)), (38, .vs (cPs l)), (39, .int .i64 (cPs l).length), (40, .int .i64 (i : Nat))] rfl .nil (.cons (by (repeat (first | rw [za1, if_pos rfl] | rw [za1, if_neg (by omega)] | rw [zae, if_neg (by omega)])); all_goals (first | rfl | assumption)) (.keep rfl) (.cons (by (repeat (first | rw [za1, if_pos rfl] | rw [za1, if_neg (by omega)] | rw [zae, if_neg (by omega)])); all_goals (first | rfl | assumption)) (.keep rfl) (.cons (by (repeat (first | rw [za1, if_pos rfl] | rw [za1, if_neg (by omega)] | rw [zae, if_neg (by omega)])); all_goals (first | rfl | assumption)) (.keep rfl) (.cons (by (repeat (first | rw [za1, if_pos rfl] | rw [za1, if_neg (by omega)] | rw [zae, if_neg (by omega)])); all_goals (first | rfl | assumption)) (.keep rfl) (.cons (by (repeat (first | rw [za1, if_pos rfl] | rw [za1, if_neg (by omega)] | rw [zae, if_neg (by omega)])); all_goals (first | rfl | assumption)) (.keep (zai _)) .nil))))) (.cons rfl (.same rfl) (.cons rfl (.same rfl) (.cons rfl (.mptr rfl) (.cons rfl (.mptr rfl) (.cons rfl (.mptr rfl) (.cons rfl (.mptr rfl) (.cons rfl (.ms rfl) (.cons rfl (.same rfl) (.cons rfl (.same rfl) (.cons rfl (.same rfl) .nil)))))))))) ?_
   repeat (first | refine za0 rfl ?_ | refine za3 ?_ | refine za4 rfl ?_ | refine zay (op := .add) rfl rfl rfl ?_)
   rw [zaq i (by omega)]
   exact zat (show l.length - (i + 1) < l.length - i by omega) (zao (.cons rfl (.cons rfl (.cons rfl (.cons rfl (.cons rfl (.cons rfl (.cons rfl (.cons rfl (.cons rfl (.cons rfl .nil))))))))))) ⟨i + 1, q + 1, rfl, hlt, hall.trans (by rw [hE2]), by rw [hE2]; rfl⟩
  | some p =>
   rw [hb] at hF hall
   obtain ⟨nx, ⟨tm, h4⟩, h3, r0, r1, r2, r3⟩ := hF
   refine ⟨_, _, .ret, _, _, _, _, _, _, h4, by simp, rfl, hmk h3, ?_⟩
   repeat (first | refine za5 ?_ | refine zaa ?_)
   refine zb2 ?_
   refine ret _ i p _ _ _ _ hall rfl rfl rfl rfl (by omega) (fun z hz => ?_) (by (repeat (first | rw [za1, if_pos rfl] | rw [za1, if_neg (by omega)] | rw [zae, if_neg (by omega)])); all_goals (first | rfl | assumption)) (by (repeat (first | rw [za1, if_pos rfl] | rw [za1, if_neg (by omega)] | rw [zae, if_neg (by omega)])); all_goals (first | rfl | assumption)) (by (repeat (first | rw [za1, if_pos rfl] | rw [za1, if_neg (by omega)] | rw [zae, if_neg (by omega)])); all_goals (first | rfl | assumption)) (by (repeat (first | rw [za1, if_pos rfl] | rw [za1, if_neg (by omega)] | rw [zae, if_neg (by omega)])); all_goals (first | rfl | assumption))
   rcases List.mem_cons.1 hz with rfl | hz
   ·show 5 ≤ q + 5; omega
   ·exact (zgs hz).1
 ·have hi2 : i = l.length := by
   have := of_decide_eq_false h3
   rw [hcl] at this
   omega
  subst hi2
  rw [List.drop_length, dgS] at hall
  repeat (first | refine za6 ?_ | refine za3 ?_ | refine za2 ?_ | refine zb8 rfl ?_ | refine zbb ?_ | refine zaj ?_)
  refine zcl ?_
  exact fin _ _ _ _ _ hall rfl rfl rfl rfl (by omega) (fun z hz => (zgs hz).1) rfl rfl rfl rfl
set_option maxHeartbeats 4000000 in
theorem danger18 (f : List Ex) (hsl : ∀ y ∈ f, Slim y) (n : Int) (l : List Sp) (hl : l.length ≤ 1000000) (hn : zp4 n l = 0 → n ≤ 4) : PF Try.prog 18 [.agg [.vs (cXs f)], .agg (cQ n l)] (dgV f n l) := by
 have hcl : (cPs l).length = l.length := zdb l
 have p1 := seq72 n l hl
 rw [chk_eq] at p1
 have p1 : PF Try.prog 72 [.agg [.int .i64 n, .vs (cPs l)]] (.int .i64 (zp4 n l)) := p1
 have p2 := zrb f hsl n
 refine zbc env0_ok fn18 [(0, .agg [.vs (cXs f)]), (1, .agg [.int .i64 n, .vs (cPs l)])] (by show 2 ≤ 97; decide) rfl fun w0 N0 => ?_
 unfold ic18 dgV
 repeat (first | refine za6 ?_ | refine za0 rfl ?_ | refine za3 ?_ | refine za2 ?_ | refine zas rfl rfl rfl rfl ?_ | refine zax ?_ | refine zby rfl rfl ?_)
 refine zau rfl rfl p1 (fun h => Bool.noConfusion (show false = true from h)) ?_
 repeat (first | refine za6 ?_ | refine za0 rfl ?_ | refine za3 ?_ | refine za2 ?_ | refine za4 rfl ?_)
 refine zar rfl rfl rfl (fun h => ?_) fun h => ?_
 ·have h : zp4 n l ≠ 0 := bne_iff_ne.1 h
  rw [show dgT f n l = (0, [], false) from if_neg h, show dgC f n l = zp4 n l from if_neg h]
  repeat (first | refine za6 ?_ | refine za0 rfl ?_ | refine za3 ?_ | refine za2 ?_ | refine zb0 rfl ?_ | refine zam ?_ | refine za5 ?_ | refine za4 rfl ?_ | refine zal rfl rfl rfl rfl rfl rfl rfl ?_)
  exact zak ⟨.inr rfl, _, rfl, rfl⟩
 have h : zp4 n l = 0 := by simpa using h
 repeat (first | refine za6 ?_ | refine za0 rfl ?_ | refine za3 ?_ | refine za2 ?_ | refine zab ?_ | refine zb8 rfl ?_ | refine za8 rfl rfl ?_ | refine zas rfl rfl rfl rfl ?_ | refine zac rfl ?_)
 refine zau rfl rfl p2 (fun h => Bool.noConfusion (show false = true from h)) ?_
 repeat (first | refine za6 ?_ | refine za0 rfl ?_ | refine za3 ?_ | refine za2 ?_ | refine za4 rfl ?_)
 have hC : dgC f n l = zdd f n := if_pos h
 rw [hC]
 refine zar rfl rfl rfl (fun h2 => ?_) fun h2 => ?_
 ·have h2 : zdd f n ≠ 0 := bne_iff_ne.1 h2
  rw [show dgT f n l = (0, [], false) from (if_pos h).trans (if_neg h2)]
  repeat (first | refine za6 ?_ | refine za0 rfl ?_ | refine za3 ?_ | refine za2 ?_ | refine zb0 rfl ?_ | refine zam ?_ | refine za5 ?_ | refine za4 rfl ?_ | refine zal rfl rfl rfl rfl rfl rfl rfl ?_)
  exact zak ⟨.inr rfl, _, rfl, rfl⟩
 have h2 : zdd f n = 0 := by simpa using h2
 rw [show dgT f n l = dgS f 0 (List.replicate n.toNat false) l from (if_pos h).trans (if_pos h2), h2]
 have hn := hn h
 obtain ⟨m, rfl, ok⟩ := chk_ok h
 have m1 := ok.n1
 have m4 : m ≤ 4 := by omega
 rw [Int.toNat_natCast]
 clear hC h p1 p2
 repeat (first | refine za6 ?_ | refine za0 rfl ?_ | refine za3 ?_ | refine za2 ?_ | refine zab ?_ | refine zb8 rfl ?_)
 refine o_fsl [[.int .i64 0]] rfl rfl rfl rfl ?_
 repeat (first | refine za8 rfl rfl ?_ | refine zac rfl ?_)
 refine o_own rfl rfl (rep0 m1 m4) (zk6 _) ?_
 repeat (first | refine za6 ?_ | refine za0 rfl ?_ | refine za3 ?_ | refine za2 ?_ | refine zad ?_ | refine za4 rfl ?_ | refine za8 rfl rfl ?_ | refine zac rfl ?_ | refine zb9 rfl rfl ?_)
 refine zbq (J18s f m l) l.length (zbk [(some (2, 2), [.int .i64 0]), (some (3, 3), [.nils]), (some (4, 4), [.bool false]), (some (5, 5), [.int .i64 0]), (some (6, 6), (enE (List.replicate m false)).map (AV.int .i64))] [(0, 0, [.vs (cXs f)]), (1, 1, [.int .i64 (m : Nat), .vs (cPs l)])] rfl rfl rfl (.cons rfl rfl (.cons rfl rfl .nil)) (.cons rfl (.keep rfl) (.cons rfl (.keep rfl) (.cons rfl (.keep rfl) (.cons rfl (.keep rfl) (.cons (by rw [zup]; rfl) (.keep (zai _)) .nil))))) (l' := [(2, .vptr [.vs (cXs f)]), (3, .vptr [.int .i64 (m : Nat), .vs (cPs l)]), (4, .mptr 0 0 0), (5, .mptr 1 0 0), (6, .mptr 2 0 0), (7, .mptr 3 0 0), (10, .ms 4 0 1 0 m (some m)), (38, .vs (cPs l)), (39, .int .i64 (cPs l).length), (40, .int .i64 ((0 : Nat) : Int))]) (.cons rfl (.fptr rfl rfl) (.cons rfl (.fptr rfl rfl) (.cons rfl (.mptr rfl) (.cons rfl (.mptr rfl) (.cons rfl (.mptr rfl) (.cons rfl (.mptr rfl) (.cons rfl (.ms rfl) (.cons rfl (.same rfl) (.cons rfl (.same rfl) (.cons rfl (.same rfl) .nil))))))))))) ⟨0, 0, rfl, Nat.zero_le _, rfl, rfl⟩ fun mm S hJ => round18 hsl h2 m4 ok mm S hJ ?_ ?_
 ·intro l' hp nx ck mk hd g4 g5 g6 g7 hnx hmk r0 r1 r2 r3
  rw [hd]
  repeat (first | refine za6 ?_ | refine za0 rfl ?_ | refine za2 ?_ | refine zba ?_)
  refine zal (sp := 0) g4 rfl rfl rfl r0 rfl rfl ?_
  refine zal (sp := 0) g5 rfl rfl rfl (by (repeat (first | rw [za1, if_pos rfl] | rw [za1, if_neg (by omega)] | rw [zae, if_neg (by omega)])); all_goals (first | rfl | assumption)) rfl rfl ?_
  refine zal (sp := 0) g6 rfl rfl rfl (by (repeat (first | rw [za1, if_pos rfl] | rw [za1, if_neg (by omega)] | rw [zae, if_neg (by omega)])); all_goals (first | rfl | assumption)) rfl rfl ?_
  refine zal (sp := 0) g7 rfl rfl rfl (by (repeat (first | rw [za1, if_pos rfl] | rw [za1, if_neg (by omega)] | rw [zae, if_neg (by omega)])); all_goals (first | rfl | assumption)) rfl rfl ?_
  repeat (first | refine za3 ?_ | refine za2 ?_ | refine zam ?_)
  have hlv : ∀ k < 5, Am.look k (zh5 mk (zbd 3 (0, .cells [.int .i64 0]) (zbd 2 (0, .cells [.bool false]) (zbd 1 (0, .cells [.nils]) (zbd 0 (0, .cells [.int .i64 0]) hp))))) = Am.look k (zbd 3 (0, .cells [.int .i64 0]) (zbd 2 (0, .cells [.bool false]) (zbd 1 (0, .cells [.nils]) (zbd 0 (0, .cells [.int .i64 0]) hp)))) := fun k hk => zft _ _ _ fun z hz e => by have := hmk z hz; omega
  refine zak ⟨.inr rfl, _, zly ((zdi 4).trans g4) (zch (sp := 0) (cs := [.int .i64 0]) ((hlv 0 (by decide)).trans ?_) (show 0 < nx by omega)) ((zdi 5).trans g5) (zch (sp := 0) (cs := [.nils]) ((hlv 1 (by decide)).trans ?_) (show 1 < nx by omega)) ((zdi 6).trans g6) (zch (sp := 0) (cs := [.bool false]) ((hlv 2 (by decide)).trans ?_) (show 2 < nx by omega)) ((zdi 7).trans g7) (zch (sp := 0) (cs := [.int .i64 0]) ((hlv 3 (by decide)).trans ?_) (show 3 < nx by omega)), rfl⟩
  all_goals exact (by (repeat (first | rw [za1, if_pos rfl] | rw [za1, if_neg (by omega)] | rw [zae, if_neg (by omega)])); all_goals (first | rfl | assumption))
 ·intro l' i p hp nx ck mk hd g4 g5 g6 g7 hnx hmk r0 r1 r2 r3
  rw [hd]
  repeat (first | refine za5 ?_ | refine zaa ?_)
  have hlv : ∀ k < 5, Am.look k (zh5 mk (hp)) = Am.look k (hp) := fun k hk => zft _ _ _ fun z hz e => by have := hmk z hz; omega
  refine zak ⟨.inr rfl, _, zly ((zdi 4).trans g4) (zch (sp := 0) (cs := [.int .i64 (i : Nat)]) ((hlv 0 (by decide)).trans ?_) (show 0 < nx by omega)) ((zdi 5).trans g5) (zch (sp := 0) (cs := [vsI p]) ((hlv 1 (by decide)).trans ?_) (show 1 < nx by omega)) ((zdi 6).trans g6) (zch (sp := 0) (cs := [.bool true]) ((hlv 2 (by decide)).trans ?_) (show 2 < nx by omega)) ((zdi 7).trans g7) (zch (sp := 0) (cs := [.int .i64 0]) ((hlv 3 (by decide)).trans ?_) (show 3 < nx by omega)), rfl⟩
  ·exact r0
  ·exact r1
  ·exact r2
  ·exact r3
end
end Go.Proofs.Ytoiblgbaeglgoaa
