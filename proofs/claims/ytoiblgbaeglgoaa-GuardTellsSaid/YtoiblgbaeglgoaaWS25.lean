/-
  A COPY OF A GUARD WITH ONE EXPRESSION MORE: the region of GuardTells.
-/
import Derived.Test.YtoiblgbaeglgoaaWG2
import Derived.Test.YtoiblgbaeglgoaaWCB
namespace Go.Proofs.Ytoiblgbaeglgoaa
open Go Go.Am
theorem clone26a {w0 : World} {N0 : Nat} (x : Ex) (l : List Ex) (hl : l.length ≤ 600) (H : HS) : FT Try.prog w0 N0 26 [.vs (cXs (x :: l))] H fun v H' => v = .ms (H.next + 1) (H.clk + 1) 3 0 (l.length + 1) none ∧ H' = ⟨(H.next + 1, H.clk + 1, .cells (cXs (x :: l)).flatten) :: (H.next, H.clk, .cells []) :: H.heap, H.next + 1 + 1, H.clk + 1 + 1⟩ := by
 have hcl : (cXs (x :: l)).length = (x :: l).length := zaj _
 refine zh7 env0_ok fn26 [(0, .vs (cXs (x :: l)))] (by show 1 ≤ 8; decide) rfl ?_
 unfold ic26
 refine za5 (za0 rfl (za3 rfl (za4 (za2 (za5 (za5 (za0 rfl (za3 rfl ?_))))))))
 refine zen (v := .bool false) (by rfl) ?_
 repeat (first | refine za5 ?_ | refine za0 rfl ?_ | refine za4 ?_ | refine za2 ?_ | refine zbe ?_ | refine zae ?_ | refine zab ?_ | refine zb6 rfl ?_ | refine zbi rfl ?_ | refine zc0 ?_ | refine zaf ?_ | refine zby ?_ | refine zan ?_ | refine zdg rfl ?_ | refine za6 ?_ | refine zah ?_ | refine zc8 rfl ?_ | refine zdv rfl rfl ?_ | refine o_gt rfl ?_ | refine za3 rfl ?_ | refine zag rfl rfl ?_ | refine zaw rfl rfl rfl rfl ?_ | refine zap rfl rfl rfl rfl rfl rfl rfl ?_ | refine zaa rfl ?_ | refine zfs rfl rfl rfl ?_ | refine zc6 rfl rfl rfl ?_ | refine zgt rfl rfl rfl rfl ?_ | refine zbl ?_ | refine zai rfl rfl ?_ | refine zac rfl rfl ?_ | refine zi1 rfl rfl ?_ | refine zbk rfl rfl ?_ | refine zhk rfl rfl ?_ | refine zdm rfl rfl ?_ | refine zcq rfl rfl ?_ | refine zfg rfl rfl rfl ?_ | refine zg4 rfl rfl ?_ | refine zfr rfl rfl rfl rfl ?_ | refine zcc rfl rfl rfl rfl ?_ | refine zic rfl rfl rfl rfl ?_ | refine zqh rfl rfl ?_ | refine zf4 rfl rfl ?_ | refine zbg rfl rfl ?_ | refine zqi ?_ | refine zfw env0_ok rfl rfl rfl ?_ | refine zao (op := .add) rfl rfl rfl ?_ | refine zao (op := .sub) rfl rfl rfl ?_ | refine zng rfl rfl rfl ?_ | refine zff rfl rfl rfl ?_ | refine zbu rfl rfl rfl ?_ | refine zbt rfl rfl rfl ?_ | refine zc2 rfl rfl (by omega) (by assumption) rfl ?_ | refine zc6 rfl rfl (decide_eq_true ⟨by omega, by omega⟩) ?_ | refine zm1 rfl rfl (by omega) (by omega) ?_ | refine zib rfl rfl rfl ?_ | refine zqk rfl ?_ | refine zqj rfl ?_)
 refine znf (cXs (x :: l)) rfl rfl (elems_vs (zl5 _)) (by rw [hcl]; exact Nat.succ_ne_zero _) (cXs_cell _) (by decide) zbf (by rw [hcl]; show l.length + 1 ≤ _; omega) ?_
 repeat (first | refine za5 ?_ | refine za0 rfl ?_ | refine za4 ?_ | refine za2 ?_ | refine zbe ?_ | refine zae ?_ | refine zab ?_ | refine zb6 rfl ?_ | refine zbi rfl ?_ | refine zc0 ?_ | refine zaf ?_ | refine zby ?_ | refine zan ?_ | refine zdg rfl ?_ | refine za6 ?_ | refine zah ?_ | refine zc8 rfl ?_ | refine zdv rfl rfl ?_ | refine o_gt rfl ?_ | refine za3 rfl ?_ | refine zag rfl rfl ?_ | refine zaw rfl rfl rfl rfl ?_ | refine zap rfl rfl rfl rfl rfl rfl rfl ?_ | refine zaa rfl ?_ | refine zfs rfl rfl rfl ?_ | refine zc6 rfl rfl rfl ?_ | refine zgt rfl rfl rfl rfl ?_ | refine zbl ?_ | refine zai rfl rfl ?_ | refine zac rfl rfl ?_ | refine zi1 rfl rfl ?_ | refine zbk rfl rfl ?_ | refine zhk rfl rfl ?_ | refine zdm rfl rfl ?_ | refine zcq rfl rfl ?_ | refine zfg rfl rfl rfl ?_ | refine zg4 rfl rfl ?_ | refine zfr rfl rfl rfl rfl ?_ | refine zcc rfl rfl rfl rfl ?_ | refine zic rfl rfl rfl rfl ?_ | refine zqh rfl rfl ?_ | refine zf4 rfl rfl ?_ | refine zbg rfl rfl ?_ | refine zqi ?_ | refine zfw env0_ok rfl rfl rfl ?_ | refine zao (op := .add) rfl rfl rfl ?_ | refine zao (op := .sub) rfl rfl rfl ?_ | refine zng rfl rfl rfl ?_ | refine zff rfl rfl rfl ?_ | refine zbu rfl rfl rfl ?_ | refine zbt rfl rfl rfl ?_ | refine zc2 rfl rfl (by omega) (by assumption) rfl ?_ | refine zc6 rfl rfl (decide_eq_true ⟨by omega, by omega⟩) ?_ | refine zm1 rfl rfl (by omega) (by omega) ?_ | refine zib rfl rfl rfl ?_ | refine zqk rfl ?_ | refine zqj rfl ?_)
 exact zad ⟨.inr rfl, _, rfl, by rw [hcl]; rfl, rfl⟩
theorem clone26b {w0 : World} {N0 : Nat} (H : HS) : FT Try.prog w0 N0 26 [.vs (cXs [])] H fun v H' => (v = .nils ∧ H' = H) ∨ (v = .ms H.next H.clk 3 0 0 (some 0) ∧ H' = ⟨(H.next, H.clk, .cells []) :: H.heap, H.next + 1, H.clk + 1⟩) := by
 refine zh7 env0_ok fn26 [(0, .vs (cXs []))] (by show 1 ≤ 8; decide) rfl ?_
 unfold ic26
 refine za5 (za0 rfl (za3 rfl (za4 (za2 (za5 (za5 (za0 rfl (za3 rfl ?_))))))))
 refine o_nilq (es := []) rfl fun b => ?_
 cases b
 ·repeat (first | refine za5 ?_ | refine za0 rfl ?_ | refine za4 ?_ | refine za2 ?_ | refine zbe ?_ | refine zae ?_ | refine zab ?_ | refine zb6 rfl ?_ | refine zbi rfl ?_ | refine zc0 ?_ | refine zaf ?_ | refine zby ?_ | refine zan ?_ | refine zdg rfl ?_ | refine za6 ?_ | refine zah ?_ | refine zc8 rfl ?_ | refine zdv rfl rfl ?_ | refine o_gt rfl ?_ | refine za3 rfl ?_ | refine zag rfl rfl ?_ | refine zaw rfl rfl rfl rfl ?_ | refine zap rfl rfl rfl rfl rfl rfl rfl ?_ | refine zaa rfl ?_ | refine zfs rfl rfl rfl ?_ | refine zc6 rfl rfl rfl ?_ | refine zgt rfl rfl rfl rfl ?_ | refine zbl ?_ | refine zai rfl rfl ?_ | refine zac rfl rfl ?_ | refine zi1 rfl rfl ?_ | refine zbk rfl rfl ?_ | refine zhk rfl rfl ?_ | refine zdm rfl rfl ?_ | refine zcq rfl rfl ?_ | refine zfg rfl rfl rfl ?_ | refine zg4 rfl rfl ?_ | refine zfr rfl rfl rfl rfl ?_ | refine zcc rfl rfl rfl rfl ?_ | refine zic rfl rfl rfl rfl ?_ | refine zqh rfl rfl ?_ | refine zf4 rfl rfl ?_ | refine zbg rfl rfl ?_ | refine zqi ?_ | refine zfw env0_ok rfl rfl rfl ?_ | refine zao (op := .add) rfl rfl rfl ?_ | refine zao (op := .sub) rfl rfl rfl ?_ | refine zng rfl rfl rfl ?_ | refine zff rfl rfl rfl ?_ | refine zbu rfl rfl rfl ?_ | refine zbt rfl rfl rfl ?_ | refine zc2 rfl rfl (by omega) (by assumption) rfl ?_ | refine zc6 rfl rfl (decide_eq_true ⟨by omega, by omega⟩) ?_ | refine zm1 rfl rfl (by omega) (by omega) ?_ | refine zib rfl rfl rfl ?_ | refine zqk rfl ?_ | refine zqj rfl ?_)
  exact zad ⟨.inr rfl, _, rfl, .inr ⟨rfl, rfl⟩⟩
 ·repeat (first | refine za5 ?_ | refine za0 rfl ?_ | refine za4 ?_ | refine za2 ?_ | refine zbe ?_ | refine zae ?_ | refine zab ?_ | refine zb6 rfl ?_ | refine zbi rfl ?_ | refine zc0 ?_ | refine zaf ?_ | refine zby ?_ | refine zan ?_ | refine zdg rfl ?_ | refine za6 ?_ | refine zah ?_ | refine zc8 rfl ?_ | refine zdv rfl rfl ?_ | refine o_gt rfl ?_ | refine za3 rfl ?_ | refine zag rfl rfl ?_ | refine zaw rfl rfl rfl rfl ?_ | refine zap rfl rfl rfl rfl rfl rfl rfl ?_ | refine zaa rfl ?_ | refine zfs rfl rfl rfl ?_ | refine zc6 rfl rfl rfl ?_ | refine zgt rfl rfl rfl rfl ?_ | refine zbl ?_ | refine zai rfl rfl ?_ | refine zac rfl rfl ?_ | refine zi1 rfl rfl ?_ | refine zbk rfl rfl ?_ | refine zhk rfl rfl ?_ | refine zdm rfl rfl ?_ | refine zcq rfl rfl ?_ | refine zfg rfl rfl rfl ?_ | refine zg4 rfl rfl ?_ | refine zfr rfl rfl rfl rfl ?_ | refine zcc rfl rfl rfl rfl ?_ | refine zic rfl rfl rfl rfl ?_ | refine zqh rfl rfl ?_ | refine zf4 rfl rfl ?_ | refine zbg rfl rfl ?_ | refine zqi ?_ | refine zfw env0_ok rfl rfl rfl ?_ | refine zao (op := .add) rfl rfl rfl ?_ | refine zao (op := .sub) rfl rfl rfl ?_ | refine zng rfl rfl rfl ?_ | refine zff rfl rfl rfl ?_ | refine zbu rfl rfl rfl ?_ | refine zbt rfl rfl rfl ?_ | refine zc2 rfl rfl (by omega) (by assumption) rfl ?_ | refine zc6 rfl rfl (decide_eq_true ⟨by omega, by omega⟩) ?_ | refine zm1 rfl rfl (by omega) (by omega) ?_ | refine zib rfl rfl rfl ?_ | refine zqk rfl ?_ | refine zqj rfl ?_)
  exact zad ⟨.inr rfl, _, rfl, .inl ⟨rfl, rfl⟩⟩
theorem AllL.cons' {p : Nat → Prop} {i : Nat} {l : List Nat} (h : p i) (t : AllL p l) : AllL p (i :: l) := ⟨h, t⟩
section
variable {P : Program} {w0 : World} {N0 : Nat} {rd : Option (Nat × Nat)} {ios : List Opr} {pres : List (List Nat)} {n nn nx nx' ck ck' i : Nat} {done : List Nat} {K : AS → Prop} {l : List (Nat × AV)} {hp hp' : List (Nat × Nat × AObj)} {k : List Fr} {Q : Exit → AS → Prop}
abbrev StF (P : Program) (w0 : World) (N0 : Nat) (rd : Option (Nat × Nat)) (ios : List Opr) (pres : List (List Nat)) (n : Nat) (done : List Nat) (S : AS) (K : AS → Prop) (i : Nat) : Prop := ∀ io, ios[i]? = some io → zc9 S.size io.dst = true ∧
   (
    (zal S io = some false ∧ AnyF P w0 N0 rd ios pres n (i :: done) (S.put io.dst (.tup [])) K) ∨
    (zal S io = some true ∧ ∃ Fk : AS → AV → Prop, Stp P w0 N0 rd io S Fk ∧ ∀ S1 v, Fk S1 v → zc9 S1.size io.dst = true ∧ AnyF P w0 N0 rd ios pres n (i :: done) (S1.put io.dst v) K))
theorem AnyF.succ {S : AS} (h1 : zfz pres ios.length done ≠ []) (h2 : AllL (StF P w0 N0 rd ios pres n done S K) (zfz pres ios.length done)) : AnyF P w0 N0 rd ios pres (n + 1) done S K := ⟨h1, h2⟩
theorem AnyF.fin {S : AS} (h1 : zfz pres ios.length done = []) (h2 : K S) : AnyF P w0 N0 rd ios pres 0 done S K := ⟨h1, h2⟩
theorem zg1 {d : Nat} {op : IOp} {v : AV} (hio : ios[i]? = some ⟨some d, op, none⟩) (hd : zc9 nn (some d) = true) (hi : iop (st nn l hp nx ck) op = some (v, st nn l hp' nx' ck')) (go : AnyF P w0 N0 rd ios pres n (i :: done) (st nn ((d, v) :: l) hp' nx' ck') K) : StF P w0 N0 rd ios pres n done (st nn l hp nx ck) K i := fun io h => by
 rw [hio] at h
 injection h with h
 subst h
 exact ⟨hd, .inr ⟨rfl, _, zmm hi, fun S1 v1 ⟨e1, e2⟩ => by subst e1 e2; exact ⟨hd, go⟩⟩⟩
theorem af_op0 {op : IOp} {v : AV} (hio : ios[i]? = some ⟨none, op, none⟩) (hi : iop (st nn l hp nx ck) op = some (v, st nn l hp' nx' ck')) (go : AnyF P w0 N0 rd ios pres n (i :: done) (st nn l hp' nx' ck') K) : StF P w0 N0 rd ios pres n done (st nn l hp nx ck) K i := fun io h => by
 rw [hio] at h
 injection h with h
 subst h
 exact ⟨rfl, .inr ⟨rfl, _, zmm hi, fun S1 v1 ⟨e1, e2⟩ => by subst e1 e2; exact ⟨rfl, go⟩⟩⟩
theorem af_ct {d : Nat} {f : FuncId} {args : List Arg} {vs : List AV} {F : AV → HS → Prop} (hio : ios[i]? = some ⟨some d, .call (.c (.fn f [] [])) args, none⟩) (hd : zc9 nn (some d) = true) (ha : zh9 args l = some vs) (hc : FT P w0 N0 f vs ⟨hp, nx, ck⟩ F)
  (go : ∀ v H, F v H → AnyF P w0 N0 rd ios pres n (i :: done) (st nn ((d, v) :: l) H.heap H.next H.clk) K) : StF P w0 N0 rd ios pres n done (st nn l hp nx ck) K i := fun io h => by
 rw [hio] at h
 injection h with h
 subst h
 refine ⟨hd, .inr ⟨rfl, fun S2 v2 => ∃ H, F v2 H ∧ S2 = (st nn l hp nx ck).withH H, zph rfl rfl ((zha args).trans ha) (ct_fn (first := []) (cap := []) (by rw [List.nil_append, List.append_nil]; exact hc)) (fun _ _ _ z hz => absurd hz List.not_mem_nil), fun S1 v1 h => ?_⟩⟩
 obtain ⟨H, hF, e⟩ := h
 subst e
 exact ⟨hd, go v1 H hF⟩
theorem z_any (hm : P.follows .mixedOrders = true) {S : AS} (h : ∀ rd, AnyF P w0 N0 rd ios pres ios.length [] S fun S' => unw P w0 N0 none k Q .normal S') : Zm P w0 N0 none (.region ios (some pres)) S k Q := ⟨zfa fun rd => T_any hm (h rd)⟩
end
section
variable {w0 : World} {N0 : Nat} {rd : Option (Nat × Nat)} {ios : List Opr} {pres : List (List Nat)} {n nn nx ck i : Nat} {done : List Nat} {K : AS → Prop} {l : List (Nat × AV)} {hp : List (Nat × Nat × AObj)}
theorem af_clone {d : Nat} {args : List Arg} (y : Ex) (f : List Ex) (hf : f.length ≤ 600) (hio : ios[i]? = some ⟨some d, .call (.c (.fn 26 [] [])) args, none⟩) (hd : zc9 nn (some d) = true) (ha : zh9 args l = some [.vs (cXs (y :: f))])
  (go : AnyF Try.prog w0 N0 rd ios pres n (i :: done) (st nn ((d, .ms (nx + 1) (ck + 1) 3 0 (f.length + 1) none) :: l) ((nx + 1, ck + 1, .cells (cXs (y :: f)).flatten) :: (nx, ck, .cells []) :: hp) (nx + 1 + 1) (ck + 1 + 1)) K) : StF Try.prog w0 N0 rd ios pres n done (st nn l hp nx ck) K i :=
 af_ct hio hd ha (clone26a y f hf _) fun v H ⟨e1, e2⟩ => by subst e1 e2; exact go
theorem zsi {d : Nat} {args : List Arg} (hio : ios[i]? = some ⟨some d, .call (.c (.fn 26 [] [])) args, none⟩) (hd : zc9 nn (some d) = true) (ha : zh9 args l = some [.vs (cXs [])])
  (go1 : AnyF Try.prog w0 N0 rd ios pres n (i :: done) (st nn ((d, .nils) :: l) hp nx ck) K)
  (go2 : AnyF Try.prog w0 N0 rd ios pres n (i :: done) (st nn ((d, .ms nx ck 3 0 0 (some 0)) :: l) ((nx, ck, .cells []) :: hp) (nx + 1) (ck + 1)) K) : StF Try.prog w0 N0 rd ios pres n done (st nn l hp nx ck) K i :=
 af_ct hio hd ha (clone26b _) fun v H h => by
  rcases h with ⟨e1, e2⟩ | ⟨e1, e2⟩
  ·subst e1 e2; exact go1
  ·subst e1 e2; exact go2
end
section
variable {n nx ck : Nat} {l : List (Nat × AV)} {hp : List (Nat × Nat × AObj)} {sz bytes : Nat} {z : List AV} {s x : Arg} {xv : AV}
theorem zrm (es : List (List AV)) (hs : zbb s l = some .nils) (hx : zbb x l = some xv) (he : (st n l hp nx ck).elems sz xv = some es) (hne : es.length ≠ 0) (hc : es.flatten.all AV.isCell = true) (hb : bytes ≤ 16777216) (h2 : es.length ≤ 1048576) :
  iop (st n l hp nx ck) (.append sz bytes z s x) = some (.ms nx ck sz 0 es.length none, st n l ((nx, ck, .cells es.flatten) :: hp) (nx + 1) (ck + 1)) := by
 simp only [iop, zay, hs, hx, he]
 unfold zce
 rw [if_neg hne, if_pos ⟨hc, hb⟩]
 simp only
 rw [if_pos h2]
 rfl
theorem ztw (es : List (List AV)) {id sp : Nat} (hs : zbb s l = some (.ms id sp sz 0 0 (some 0))) (hx : zbb x l = some xv) (he : (st n l hp nx ck).elems sz xv = some es) (hne : es.length ≠ 0) (hc : es.flatten.all AV.isCell = true) (hb : bytes ≤ 16777216) (hlk : Am.look id hp = some (sp, .cells [])) (h2 : es.length ≤ 1048576) :
  iop (st n l hp nx ck) (.append sz bytes z s x) = some (.ms nx ck sz 0 es.length none, st n l ((nx, ck, .cells es.flatten) :: hp) (nx + 1) (ck + 1)) := by
 simp only [iop, zay, hs, hx, he]
 unfold zce
 rw [if_neg hne, if_pos ⟨hc, hb⟩]
 simp only [show (st n l hp nx ck).heap = hp from rfl, hlk]
 rw [if_pos ⟨trivial, trivial, by simp, by omega⟩, if_neg (by omega)]
 simp only [Nat.zero_add, Nat.zero_mul, List.take_zero, List.nil_append]
 rfl
end
def r5 : List Opr := [⟨(some 35), .faddr 0 (.t 3), none⟩,
  ⟨(some 36), .load none (.t 35), none⟩,
  ⟨(some 37), .call (.c (.fn 26 [] [])) [(.t 36)], none⟩,
  ⟨(some 38), .load (some 3) (.t 5), none⟩,
  ⟨(some 39), .bslice 3 1 [.int .i64 0, .int .i64 0, .nils] [(0, 3, (.t 38))], none⟩,
  ⟨(some 40), .append 3 40 [.int .i64 0, .int .i64 0, .nils] (.t 37) (.t 39), none⟩,
  ⟨(some 41), .build [.nils] [(0, 1, (.t 40))], none⟩,
  ⟨(some 7), .alloc [.nils], none⟩,
  ⟨none, .store 1 (.t 7) (.t 41), none⟩]
def p5 : List (List Nat) := [[], [0], [1], [], [3], [2, 4, 2], [5], [], [7, 6, 5, 0, 1, 2, 3, 4, 5, 6, 7]]
section
variable {w0 : World} {N0 : Nat} {k : List Fr} {Q : Exit → AS → Prop}
set_option maxHeartbeats 8000000 in
theorem wide5 (n : Int) (y : Ex) (f : List Ex) (hf : f.length ≤ 600) (op ix : Int) (args : List Ex) (K : AS → Prop)
  (fin : ∀ id7 s7 id s l' hp nx ck, zbx 1 l' = some (.int .i64 n) → zbx 3 l' = some (.vptr [.vs (cXs (y :: f))]) → zbx 6 l' = some (.bool false) → zbx 7 l' = some (.mptr id7 s7 0) → Am.look id7 hp = some (s7, .cells [.ms id s 3 0 (f.length + 1 + 1) none]) → Am.look id hp = some (s, .cells ((cXs (y :: f)).flatten ++ cX (.nd op ix args))) → id7 ≠ id → K (st 138 l' hp nx ck)) (rd : Option (Nat × Nat)) :
  AnyF Try.prog w0 N0 rd r5 p5 9 [] (st 138 [(1, .int .i64 n), (3, .vptr [.vs (cXs (y :: f))]), (5, .vptr (cX (.nd op ix args))), (6, .bool false)] [] 0 1) K := by
 have hcl : (cXs (y :: f)).flatten.length = (f.length + 1) * 3 := by
  rw [zev (zl5 _), zaj]; rfl
 repeat' first
  | exact trivial
  | refine AnyF.succ (by decide) ?_
  | refine AllL.cons' ?_ ?_
  | refine zg1 (i := 0) rfl rfl (zlj rfl rfl rfl) ?_
  | refine zg1 (i := 1) rfl rfl (zq6 rfl rfl) ?_
  | refine zg1 (i := 3) rfl rfl (zlk rfl rfl rfl rfl) ?_
  | refine zg1 (i := 7) rfl rfl zoi ?_
  | refine zg1 (i := 4) rfl rfl (zli rfl rfl) ?_
  | refine zg1 (i := 6) rfl rfl (zoj rfl rfl) ?_
  | refine zg1 (i := 5) rfl rfl (zjb [cX (.nd op ix args)] rfl rfl (zlc (ys := []) rfl rfl (fun x hx => by obtain rfl := List.mem_singleton.1 hx; rfl)) (fun h => Nat.noConfusion h) rfl (by decide) rfl (by rw [hcl]) (by show f.length + 1 + 1 ≤ _; omega)) ?_
  | refine af_op0 (i := 8) rfl (zok rfl rfl rfl rfl rfl rfl rfl) ?_
  | refine af_clone (i := 2) y f hf rfl rfl rfl ?_
  | (refine AnyF.fin (by decide) ?_; exact fin _ _ _ _ _ _ _ _ rfl rfl rfl rfl rfl rfl (by decide))
set_option maxHeartbeats 8000000 in
theorem wide5e (n : Int) (op ix : Int) (args : List Ex) (K : AS → Prop)
  (fin : ∀ id7 s7 id s l' hp nx ck, zbx 1 l' = some (.int .i64 n) → zbx 3 l' = some (.vptr [.vs (cXs [])]) → zbx 6 l' = some (.bool false) → zbx 7 l' = some (.mptr id7 s7 0) → Am.look id7 hp = some (s7, .cells [.ms id s 3 0 1 none]) → Am.look id hp = some (s, .cells (cX (.nd op ix args))) → id7 ≠ id → K (st 138 l' hp nx ck)) (rd : Option (Nat × Nat)) :
  AnyF Try.prog w0 N0 rd r5 p5 9 [] (st 138 [(1, .int .i64 n), (3, .vptr [.vs (cXs [])]), (5, .vptr (cX (.nd op ix args))), (6, .bool false)] [] 0 1) K := by
 repeat' first
  | exact trivial
  | refine AnyF.succ (by decide) ?_
  | refine AllL.cons' ?_ ?_
  | refine zg1 (i := 0) rfl rfl (zlj rfl rfl rfl) ?_
  | refine zg1 (i := 1) rfl rfl (zq6 rfl rfl) ?_
  | refine zg1 (i := 3) rfl rfl (zlk rfl rfl rfl rfl) ?_
  | refine zg1 (i := 7) rfl rfl zoi ?_
  | refine zg1 (i := 4) rfl rfl (zli rfl rfl) ?_
  | refine zg1 (i := 6) rfl rfl (zoj rfl rfl) ?_
  | refine zg1 (i := 5) rfl rfl (zrm [cX (.nd op ix args)] rfl rfl (zlc (ys := []) rfl rfl (fun x hx => by obtain rfl := List.mem_singleton.1 hx; rfl)) (fun h => Nat.noConfusion h) rfl (by decide) (by show 1 ≤ _; decide)) ?_
  | refine zg1 (i := 5) rfl rfl (ztw [cX (.nd op ix args)] rfl rfl (zlc (ys := []) rfl rfl (fun x hx => by obtain rfl := List.mem_singleton.1 hx; rfl)) (fun h => Nat.noConfusion h) rfl (by decide) rfl (by show 1 ≤ _; decide)) ?_
  | refine af_op0 (i := 8) rfl (zok rfl rfl rfl rfl rfl rfl rfl) ?_
  | refine zsi (i := 2) rfl rfl rfl ?_ ?_
  | (refine AnyF.fin (by decide) ?_; exact fin _ _ _ _ _ _ _ _ rfl rfl rfl rfl rfl rfl (by decide))
end
end Go.Proofs.Ytoiblgbaeglgoaa
