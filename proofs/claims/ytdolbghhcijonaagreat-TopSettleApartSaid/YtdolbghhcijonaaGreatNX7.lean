/-
  A REGION IN ALL ITS ORDERS, with operations that lay what only is told.; A MACHINE THAT IS MADE.; A ROUND: what becomes of a signal.; A ROUND: the writing of a signal.; A ROUND.; ROUNDS KEEP A STATE RIGHT.; SORTING AND COMPACTING NOTHING.
-/
import Derived.Test.YtdolbghhcijonaaGreatNX6
namespace Go.Proofs.YtdolbghhcijonaaGreat
open Go Go.Am
section
variable {P : Program} {w0 : World} {N0 : Nat} {rd : Option (Nat × Nat)} {ios : List Opr} {pres : List (List Nat)} {K : AS -> Prop} {n nn nx ck nx' ck' i : Nat} {D : List Nat} {l : List (Nat × AV)} {hp hp' : List (Nat × Nat × AObj)}
theorem znp {d : Option Nat} {op : IOp} {g : Nat} {b x : Bool} (hg : zah g l = some (.bool x)) : zaf (st nn l hp nx ck) ⟨d, op, some (g, b)⟩ = some (x == b) := by simp [zaf, zch, hg]
theorem zmj {d : Nat} {op : IOp} {g : Nat} {b x : Bool} (hio : ios[i]? = some ⟨some d, op, some (g, b)⟩) (hd : zc6 nn (some d) = true) (hg : zah g l = some (.bool x)) (hx : (x == b) = false) (go : AnyF P w0 N0 rd ios pres n (i :: D) (st nn ((d, .tup []) :: l) hp nx ck) K) : StF P w0 N0 rd ios pres n D (st nn l hp nx ck) K i := fun io h => by
 rw [hio] at h;injection h with h;subst h;exact ⟨hd, .inl ⟨by rw [znp hg, hx], go⟩⟩
theorem ztz {d : Nat} {op : IOp} {v : AV} {g : Nat} {b x : Bool} (hio : ios[i]? = some ⟨some d, op, some (g, b)⟩) (hd : zc6 nn (some d) = true) (hg : zah g l = some (.bool x)) (hx : (x == b) = true) (hi : iop (st nn l hp nx ck) op = some (v, st nn l hp' nx' ck')) (go : AnyF P w0 N0 rd ios pres n (i :: D) (st nn ((d, v) :: l) hp' nx' ck') K) : StF P w0 N0 rd ios pres n D (st nn l hp nx ck) K i := fun io h => by
 rw [hio] at h;injection h with h;subst h;exact ⟨hd, .inr ⟨by rw [znp hg, hx], _, zlc hi, fun S1 v1 ⟨e1, e2⟩ => by subst e1 e2; exact ⟨hd, go⟩⟩⟩
theorem zix {d : Nat} {f : FuncId} {fa : Arg} {args : List Arg} {vs xs : List AV} {v : AV} {gd : Option (Nat × Bool)} (hio : ios[i]? = some ⟨some d, .call fa args, gd⟩) (hd : zc6 nn (some d) = true) (hw : zaf (st nn l hp nx ck) ⟨some d, .call fa args, gd⟩ = some true) (hf : zar fa l = some (.fn f [] [])) (ha : zeo args l = some vs) (hv : vs.map ((st nn l hp nx ck).view VD) = xs) (hpf : PF P f xs v) (hfl : hasM.hasML vs = true -> flat v = true)
  (go : AnyF P w0 N0 rd ios pres n (i :: D) (st nn ((d, v) :: l) hp nx ck) K) : StF P w0 N0 rd ios pres n D (st nn l hp nx ck) K i := fun io h => by
 rw [hio] at h;injection h with h;subst h;refine ⟨hd, .inr ⟨hw, ?_⟩⟩;have hc : WpCall P w0 N0 (st nn l hp nx ck) (.fn f [] []) vs fun v' S' => v' = v /\ S' = st nn l hp nx ck := zgx (by rw [y1y, y0s, hv]; exact hpf) (by rw [y1y, y0s]; exact hfl) (fun m hm => absurd hm y0c) ⟨rfl, rfl⟩;obtain ⟨Fk, hct, hk⟩ := hc.ok;refine ⟨fun S2 v2 => ∃ H, Fk v2 H /\ S2 = (st nn l hp nx ck).withH H, zlb rfl ((zag fa).trans hf) ((zfs args).trans ha) hct fun v H hF => (hk v H hF).1, fun S1 v1 ⟨H, hF, e⟩ => ?_⟩;subst e;obtain ⟨_, rfl, e2⟩ := hk v1 H hF;rw [e2];exact ⟨hd, go⟩
end
def befs (pres : List (List Nat)) : Nat -> List Nat -> List Nat
 | 0, S => S
 | j + 1, S => befs pres j (if S.any (Nat.beq j) then S ++ pres.getD j [] else S)
theorem zml {pres : List (List Nat)} {D : List Nat} (hD : ∀ j ∈ D, ∀ p ∈ pres.getD j [], p ∈ D) : ∀ (n : Nat) (S : List Nat), (∀ p ∈ S, p ∈ D) -> ∀ p ∈ befs pres n S, p ∈ D
 | 0, S, h => h
 | j + 1, S, h => by
  unfold befs;refine zml hD j _ ?_;split
  ·rename_i e;rw [y2f] at e;obtain ⟨q, hq, e⟩ := e;have e := zfe.1 e;subst e;intro p hp;rcases y1n.1 hp with hp | hp
   ·exact h p hp
   ·exact hD _ (h _ hq) p hp
  ·exact h
inductive RK where
 | c (f : (Nat -> Nat -> Nat) -> AV)
 | l
 | s
structure RegC where
 m : Nat
 dst : Nat -> Nat
 qv : Nat -> RK
 lw : Nat -> (Nat -> Nat) -> AV
 tl : Nat -> (Nat -> Nat) -> List (Nat × Nat × AObj) -> Nat -> Nat -> Prop
 st : ∀ i x hp hp' lo hi, tl i x hp lo hi -> (∀ j, j < hi -> Am.look j hp' = Am.look j hp) -> tl i x hp' lo hi
structure KrC (R : RegC) (base : List (Nat × AV)) (b : Nat) (old : Nat -> Option (Nat × AObj)) (D : List Nat) (l : List (Nat × AV)) (hp : List (Nat × Nat × AObj)) (nx : Nat) (nm : Nat -> Nat -> Nat) (lo hi : Nat -> Nat) : Prop where
 bs : ∀ t v, (t, v) ∈ base -> zah t l = some v
 bx : b <= nx
 ol : ∀ j, j < b -> Am.look j hp = old j
 q : ∀ i f, i ∈ D -> R.qv i = .c f -> zah (R.dst i) l = some (f nm)
 lv : ∀ i, i ∈ D -> R.qv i = .l -> zah (R.dst i) l = some (R.lw i (nm i))
 lh : ∀ i, i ∈ D -> R.qv i = .l -> R.tl i (nm i) hp (lo i) (hi i) /\ b <= lo i /\ hi i <= nx
 ij : ∀ i j, i ∈ D -> j ∈ D -> R.qv i = .l -> R.qv j = .l -> i ≠ j -> hi i <= lo j \/ hi j <= lo i
def updT {α : Type} (f : Nat -> α) (i : Nat) (x : α) : Nat -> α := fun j => if j = i then x else f j
theorem zg4 {α : Type} (f : Nat -> α) (i : Nat) (x : α) : updT f i x i = x := if_pos rfl
theorem zcm {α : Type} {f : Nat -> α} {i j : Nat} {x : α} (h : j ≠ i) : updT f i x j = f j := if_neg h
theorem zu2 {P : Program} {w0 : World} {N0 : Nat} {rd : Option (Nat × Nat)} {ios : List Opr} {pres : List (List Nat)} {K : AS -> Prop} {n nx0 ck0 : Nat} {l0 : List (Nat × AV)} {hp0 : List (Nat × Nat × AObj)} (R : RegC) (base : List (Nat × AV))
  (Z : Nat -> AS -> Prop) (hm : R.m < ios.length) (hp : ∀ i < ios.length, ∀ p ∈ pres.getD i [], p < i) (hlast : ∀ i, R.m <= i -> i < ios.length -> ∀ D : List Nat, (∀ j ∈ D, ∀ p ∈ pres.getD j [], p ∈ D) -> (∀ p ∈ pres.getD i [], p ∈ D) -> ∀ p < i, p ∈ D)
  (hdst : ∀ i < R.m, ∀ j < R.m, R.dst i = R.dst j -> i = j) (hbase : ∀ t v, (t, v) ∈ base -> ∀ i < R.m, R.dst i ≠ t) (hb0 : ∀ t v, (t, v) ∈ base -> zah t l0 = some v)
  (hq : ∀ i f, R.qv i = .c f -> ∀ nm nm' : Nat -> Nat -> Nat, (∀ p ∈ befs pres i (pres.getD i []), nm p = nm' p) -> f nm = f nm')
  (hop : ∀ i < R.m, ∀ n1 D l hp nx ck nm lo hi, KrC R base nx0 (fun j => Am.look j hp0) D l hp nx nm lo hi -> (∀ p ∈ pres.getD i [], p ∈ D) ->
   match R.qv i with
   | .c f => AnyF P w0 N0 rd ios pres n1 (i :: D) (st n ((R.dst i, f nm) :: l) hp nx ck) K -> StF P w0 N0 rd ios pres n1 D (st n l hp nx ck) K i
   | .s => AnyF P w0 N0 rd ios pres n1 (i :: D) (st n l hp nx ck) K -> StF P w0 N0 rd ios pres n1 D (st n l hp nx ck) K i
   | .l => (∀ x hp' nx' ck', nx <= nx' -> (∀ j, j < nx -> Am.look j hp' = Am.look j hp) -> R.tl i x hp' nx nx' -> AnyF P w0 N0 rd ios pres n1 (i :: D) (st n ((R.dst i, R.lw i x) :: l) hp' nx' ck') K) -> StF P w0 N0 rd ios pres n1 D (st n l hp nx ck) K i)
  (hZ : ∀ l hp nx ck nm lo hi, KrC R base nx0 (fun j => Am.look j hp0) (List.range R.m) l hp nx nm lo hi -> Z R.m (st n l hp nx ck))
  (hlops : ∀ j, R.m <= j -> j < ios.length -> ∀ S, Z j S -> ∀ n1 D, (∀ S', Z (j + 1) S' -> AnyF P w0 N0 rd ios pres n1 (j :: D) S' K) -> StF P w0 N0 rd ios pres n1 D S K j)
  (hfin : ∀ S, Z ios.length S -> K S) :
  AnyF P w0 N0 rd ios pres ios.length [] (st n l0 hp0 nx0 ck0) K := by
 refine zpf hp (fun D S => (∀ i ∈ D, i < R.m) /\ (∀ j ∈ D, ∀ p ∈ pres.getD j [], p ∈ D) /\ (∃ l hp nx ck nm lo hi, S = st n l hp nx ck /\ KrC R base nx0 (fun j => Am.look j hp0) D l hp nx nm lo hi) \/ (∃ j, R.m < j /\ j <= ios.length /\ (∀ i, i ∈ D ↔ i < j) /\ Z j S)) ?_ ?_ ios.length [] _ (.inl ⟨fun i h => absurd h y0c, fun i h => absurd h y0c, l0, hp0, nx0, ck0, fun _ _ => 0, fun _ => 0, fun _ => 0, rfl, ⟨hb0, y08 _, fun _ _ => rfl, fun i f h => absurd h y0c, fun i h => absurd h y0c, fun i h => absurd h y0c, fun i j h => absurd h y0c⟩⟩) ?_
 ·intro n1 D S i hI hi hnD hpD go;rcases hI with ⟨hD, hdc, l, hp1, nx, ck, nm, lo, hi', rfl, hK⟩ | ⟨j, h1, h2, h3, hZj⟩
  ·by_cases hlt : i < R.m
   ·have e3 := hop i hlt n1 D l hp1 nx ck nm lo hi' hK hpD;have hne : ∀ j ∈ D, R.dst i ≠ R.dst j := fun j hj e => hnD (by rw [hdst i hlt j (hD j hj) e]; exact hj);have hdc2 : ∀ j ∈ i :: D, ∀ p ∈ pres.getD j [], p ∈ i :: D := fun j hj p hpp => by
     rcases y0f.1 hj with rfl | hj
     ·exact y0a _ (hpD p hpp)
     ·exact y0a _ (hdc j hj p hpp)
    cases hqv : R.qv i with
    | c f =>
     rw [hqv] at e3;refine e3 (go _ (.inl ⟨fun j hj => ?_, hdc2, _, _, _, _, nm, lo, hi', rfl, ?_⟩))
     ·rcases y0f.1 hj with rfl | hj
      ·exact hlt
      ·exact hD j hj
     ·refine ⟨fun t v ht => ?_, hK.bx, hK.ol, fun j g hj hg => ?_, fun j hj hg => ?_, fun j hj hg => ?_, fun j k hj hk hg hg2 e => ?_⟩
      ·rw [zax (hbase t v ht i hlt)]; exact hK.bs t v ht
      ·rcases y0f.1 hj with rfl | hj
       ·rw [hqv] at hg; injection hg with hg; subst hg;exact zfx ..
       ·rw [zax (hne j hj)]; exact hK.q j g hj hg
      ·rcases y0f.1 hj with rfl | hj
       ·rw [hqv] at hg; cases hg
       ·rw [zax (hne j hj)]; exact hK.lv j hj hg
      ·rcases y0f.1 hj with rfl | hj
       ·rw [hqv] at hg; cases hg
       ·exact hK.lh j hj hg
      ·rcases y0f.1 hj with rfl | hj
       ·rw [hqv] at hg; cases hg
       ·rcases y0f.1 hk with rfl | hk
        ·rw [hqv] at hg2; cases hg2
        ·exact hK.ij j k hj hk hg hg2 e
    | s =>
     rw [hqv] at e3;refine e3 (go _ (.inl ⟨fun j hj => ?_, hdc2, _, _, _, _, nm, lo, hi', rfl, ?_⟩))
     ·rcases y0f.1 hj with rfl | hj
      ·exact hlt
      ·exact hD j hj
     ·refine ⟨hK.bs, hK.bx, hK.ol, fun j g hj hg => ?_, fun j hj hg => ?_, fun j hj hg => ?_, fun j k hj hk hg hg2 e => ?_⟩
      ·rcases y0f.1 hj with rfl | hj
       ·rw [hqv] at hg; cases hg
       ·exact hK.q j g hj hg
      ·rcases y0f.1 hj with rfl | hj
       ·rw [hqv] at hg; cases hg
       ·exact hK.lv j hj hg
      ·rcases y0f.1 hj with rfl | hj
       ·rw [hqv] at hg; cases hg
       ·exact hK.lh j hj hg
      ·rcases y0f.1 hj with rfl | hj
       ·rw [hqv] at hg; cases hg
       ·rcases y0f.1 hk with rfl | hk
        ·rw [hqv] at hg2; cases hg2
        ·exact hK.ij j k hj hk hg hg2 e
    | l =>
     rw [hqv] at e3;have hji : ∀ j ∈ D, j ≠ i := fun j hj e => hnD (e ▸ hj);refine e3 fun x hp2 nx2 ck2 hnx hkp htl => go _ (.inl ⟨fun j hj => ?_, hdc2, _, _, _, _, updT nm i x, updT lo i nx, updT hi' i nx2, rfl, ?_⟩)
     ·rcases y0f.1 hj with rfl | hj
      ·exact hlt
      ·exact hD j hj
     ·refine ⟨fun t v ht => ?_, y0u hK.bx hnx, fun j hj => ?_, fun j g hj hg => ?_, fun j hj hg => ?_, fun j hj hg => ?_, fun j k hj hk hg hg2 e => ?_⟩
      ·rw [zax (hbase t v ht i hlt)]; exact hK.bs t v ht
      ·exact (hkp j (y09 hj hK.bx)).trans (hK.ol j hj)
      ·rcases y0f.1 hj with rfl | hj
       ·rw [hqv] at hg; cases hg
       ·rw [zax (hne j hj), hK.q j g hj hg];refine congrArg some (hq j g hg _ _ fun p hpp => ?_);by_cases hpi : p = i
        ·exact absurd (zml hdc j _ (hdc j hj) p hpp) (by rw [hpi]; exact hnD)
        ·rw [zcm hpi]
      ·rcases y0f.1 hj with rfl | hj
       ·rw [zg4]; exact zfx ..
       ·rw [zax (hne j hj), zcm (hji j hj)]; exact hK.lv j hj hg
      ·rcases y0f.1 hj with rfl | hj
       ·rw [zg4, zg4, zg4]; exact ⟨htl, hK.bx, y08 _⟩
       ·rw [zcm (hji j hj), zcm (hji j hj), zcm (hji j hj)];obtain ⟨a1, a2, a3⟩ := hK.lh j hj hg;exact ⟨R.st _ _ _ _ _ _ a1 fun k hk => hkp k (y09 hk a3), a2, y0u a3 hnx⟩
      ·by_cases e1 : j = i
       ·by_cases e2 : k = i
        ·exact absurd (e1.trans e2.symm) e
        ·have hk' : k ∈ D := (y0f.1 hk).resolve_left e2;subst e1;rw [zg4, zg4, zcm e2, zcm e2];exact .inr (hK.lh k hk' hg2).2.2
       ·have hj' : j ∈ D := (y0f.1 hj).resolve_left e1;by_cases e2 : k = i
        ·subst e2;rw [zg4, zg4, zcm e1, zcm e1];exact .inl (hK.lh j hj' hg).2.2
        ·rw [zcm e1, zcm e2, zcm e1, zcm e2];exact hK.ij j k hj' ((y0f.1 hk).resolve_left e2) hg hg2 e
   ·have him : i = R.m := by
     refine y1j fun hne => ?_;exact absurd (hD R.m (hlast i (by omega) hi D hdc hpD R.m (by omega))) (y21 _)
    subst him;have hall : ∀ j < R.m, j ∈ D := fun j hj => hlast R.m (y08 _) hm D hdc hpD j hj;refine hlops R.m (y08 _) hm _ (hZ l hp1 nx ck nm lo hi' ⟨hK.bs, hK.bx, hK.ol, fun j g hj hg => hK.q j g (hall j (y0m.1 hj)) hg, fun j hj hg => hK.lv j (hall j (y0m.1 hj)) hg, fun j hj hg => hK.lh j (hall j (y0m.1 hj)) hg, fun j k hj hk hg hg2 e => hK.ij j k (hall j (y0m.1 hj)) (hall k (y0m.1 hk)) hg hg2 e⟩) n1 D fun S' hS' => go _ (.inr ⟨R.m + 1, y07 _, hm, fun j => ⟨fun hj => ?_, fun hj => ?_⟩, hS'⟩)
    ·rcases y0f.1 hj with rfl | hj
     ·omega
     ·have := hD j hj; omega
    ·by_cases e : j = R.m
     ·rw [e]; exact y01 ..
     ·exact y0a _ (hall j (by omega))
  ·have hij : i = j := by
    have a1 : ¬ i < j := fun h => hnD ((h3 i).2 h);refine y1j fun hne => ?_;have hcl : ∀ j' ∈ D, ∀ p ∈ pres.getD j' [], p ∈ D := fun j' hj' p hpp => by
     have a2 := (h3 j').1 hj';have a3 := hp j' (by omega) p hpp;exact (h3 p).2 (by omega)
    have := (h3 j).1 (hlast i (by omega) hi D hcl hpD j (by omega));omega
   subst hij;refine hlops i (Nat.le_of_lt h1) hi S hZj n1 D fun S' hS' => go _ (.inr ⟨i + 1, by omega, hi, fun j => ⟨fun hj => ?_, fun hj => ?_⟩, hS'⟩)
   ·rcases y0f.1 hj with rfl | hj
    ·omega
    ·have := (h3 j).1 hj; omega
   ·by_cases e : j = i
    ·rw [e]; exact y01 ..
    ·exact y0a _ ((h3 j).2 (by omega))
 ·intro D S hI hD;rcases hI with ⟨h1, _⟩ | ⟨j, h1, h2, h3, hZ⟩
  ·exact absurd (h1 R.m (hD R.m hm)) (y21 _)
  ·have : j = ios.length := by
    refine y1j fun hne => ?_;have := (h3 j).1 (hD j (by omega));omega
   subst this;exact hfin S hZ
 ·rw [List.filter_eq_self.2 fun i _ => by simp, y1v]
def zir (m N : Nat) (pres : List (List Nat)) (dst : Nat -> Nat) (bk : List Nat) : Bool :=
 Nat.blt m N && ((List.range N).all fun i => (pres.getD i []).all fun p => Nat.blt p i) && ((List.range N).all fun i => Nat.ble i m || (pres.getD i []).any fun q => Nat.beq q (i - 1)) && ((List.range m).all fun p => (befs pres m (pres.getD m [])).any fun q => Nat.beq q p) &&
  ((List.range m).all fun i => (List.range m).all fun j => Nat.beq i j || !Nat.beq (dst i) (dst j)) && (List.range m).all fun i => bk.all fun t => !Nat.beq (dst i) t
theorem zta {m N : Nat} {pres : List (List Nat)} (h3 : ∀ i < N, (Nat.ble i m || (pres.getD i []).any fun q => Nat.beq q (i - 1)) = true) (h6 : ∀ p < m, ((befs pres m (pres.getD m [])).any fun q => Nat.beq q p) = true) {D : List Nat} (hD : ∀ j ∈ D, ∀ p ∈ pres.getD j [], p ∈ D) : ∀ k : Nat, m + k < N -> (∀ p ∈ pres.getD (m + k) [], p ∈ D) -> ∀ p < m + k, p ∈ D := by
 intro k
 induction k with
 | zero =>
  intro _ hp p hlt;have := h6 p hlt;rw [y2f] at this;obtain ⟨q, hq, e⟩ := this;rw [<- zfe.1 e];exact zml hD m _ hp q hq
 | succ i ih =>
  intro hi hp p hlt;have := h3 (m + i + 1) hi;rw [y0v] at this;rcases this with e | e
  ·have := y04 e;omega
  ·rw [y2f] at e;obtain ⟨q, hq, e⟩ := e;have e := zfe.1 e;rw [Nat.add_sub_cancel] at e;have hin := hp _ hq;rw [e] at hin;by_cases e2 : p = m + i
   ·rw [e2]; exact hin
   ·exact ih (by omega) (fun p' hp' => hD _ hin p' hp') p (by omega)
theorem zg6 {P : Program} {w0 : World} {N0 : Nat} {rd : Option (Nat × Nat)} {ios : List Opr} {pres : List (List Nat)} {K : AS -> Prop} {n nx0 ck0 : Nat} {l0 : List (Nat × AV)} {hp0 : List (Nat × Nat × AObj)} (R : RegC) (base : List (Nat × AV))
  (Z : Nat -> AS -> Prop) (N : Nat) (hN : ios.length = N) (hck : zir R.m N pres R.dst (base.map (·.1)) = true) (hb0 : ∀ t v, (t, v) ∈ base -> zah t l0 = some v)
  (hq : ∀ i f, R.qv i = .c f -> ∀ nm nm' : Nat -> Nat -> Nat, (∀ p ∈ befs pres i (pres.getD i []), nm p = nm' p) -> f nm = f nm')
  (hop : ∀ i < R.m, ∀ n1 D l hp nx ck nm lo hi, KrC R base nx0 (fun j => Am.look j hp0) D l hp nx nm lo hi -> (∀ p ∈ pres.getD i [], p ∈ D) ->
   match R.qv i with
   | .c f => AnyF P w0 N0 rd ios pres n1 (i :: D) (st n ((R.dst i, f nm) :: l) hp nx ck) K -> StF P w0 N0 rd ios pres n1 D (st n l hp nx ck) K i
   | .s => AnyF P w0 N0 rd ios pres n1 (i :: D) (st n l hp nx ck) K -> StF P w0 N0 rd ios pres n1 D (st n l hp nx ck) K i
   | .l => (∀ x hp' nx' ck', nx <= nx' -> (∀ j, j < nx -> Am.look j hp' = Am.look j hp) -> R.tl i x hp' nx nx' -> AnyF P w0 N0 rd ios pres n1 (i :: D) (st n ((R.dst i, R.lw i x) :: l) hp' nx' ck') K) -> StF P w0 N0 rd ios pres n1 D (st n l hp nx ck) K i)
  (hZ : ∀ l hp nx ck nm lo hi, KrC R base nx0 (fun j => Am.look j hp0) (List.range R.m) l hp nx nm lo hi -> Z R.m (st n l hp nx ck))
  (hlops : ∀ j, R.m <= j -> j < N -> ∀ S, Z j S -> ∀ n1 D, (∀ S', Z (j + 1) S' -> AnyF P w0 N0 rd ios pres n1 (j :: D) S' K) -> StF P w0 N0 rd ios pres n1 D S K j)
  (hfin : ∀ S, Z N S -> K S) :
  AnyF P w0 N0 rd ios pres ios.length [] (st n l0 hp0 nx0 ck0) K := by
 subst hN;unfold zir at hck;rw [y0g, y0g, y0g, y0g, y0g] at hck;obtain ⟨⟨⟨⟨⟨h1, h2⟩, h3⟩, h6⟩, h4⟩, h5⟩ := hck;simp only [y0h, y0m] at h2 h3 h4 h5 h6;refine zu2 R base Z (zo2.1 h1) (fun i hi p hp => zo2.1 (h2 i hi p hp)) (fun i hm hi D hD hp => by
  obtain ⟨k, rfl⟩ := Nat.exists_eq_add_of_le hm;exact zta h3 h6 hD k hi hp) (fun i hi j hj e => ?_) (fun t v ht i hi e => ?_) hb0 hq hop hZ hlops hfin
 ·have := h4 i hi j hj;rw [y0v] at this;rcases this with h | h
  ·exact zfe.1 h
  ·rw [zfe.2 e] at h;cases h
 ·have := h5 i hi t (y0p.2 ⟨(t, v), ht, rfl⟩);rw [zfe.2 e] at this;cases this
set_option maxRecDepth 100000
theorem g_bin {op : BinOp} {x y : Arg} {a b v : AV} {n nx ck : Nat} {l : List (Nat × AV)} {hp : List (Nat × Nat × AObj)} {mk : List (Nat × Nat)} (hx : zar x l = some a) (hy : zar y l = some b) (hb : Am.binOp op a b = some v) : iop (st n l hp nx ck mk) (.bin op x y) = some (v, st n l hp nx ck mk) := by simp only [iop, zag, hx, hy, hb]; rfl
theorem Sms.shs {s : Sta} (h : Sms s) : Shs s := ⟨by have := h.e; omega, by have := h.v; omega, by have := h.i; omega, by have := h.b; omega, by have := h.t; omega⟩
def nil11 : List AV := [.int .i64 0, .nils, .nils, .nils, .nils, .nils, .nils, .nils, .nils, .nils, .int .i64 0]
theorem parts21 {x y z : Nat} {c : Ctl} {s : Sta} {wv wt : AV} {f : Int} {l : List (Nat × AV)} (h1 : zah x l = some (.agg (cC c))) (h2 : zah y l = some (.agg [vsI s.en, vsB s.va, vsB s.inp, wv, wt])) (h3 : zah z l = some (.int .i64 f)) :
  ze9 [(0, 5, (.t x)), (5, 5, (.t y)), (10, 1, (.t z))] l = some [(0, .agg (cC c)), (5, .agg [vsI s.en, vsB s.va, vsB s.inp, wv, wt]), (10, .int .i64 f)] := by
 simp only [ze9, zar, h1, h2, h3];rfl
theorem fill21 {c : Ctl} {s : Sta} {wv wt : AV} {f : Int} (h : zbe nil11 [(0, .agg (cC c)), (5, .agg [vsI s.en, vsB s.va, vsB s.inp, wv, wt]), (10, .int .i64 f)] = some (cC c ++ [vsI s.en, vsB s.va, vsB s.inp, wv, wt, .int .i64 f]) := by rfl) : zbe nil11 [(0, .agg (cC c)), (5, .agg [vsI s.en, vsB s.va, vsB s.inp, wv, wt]), (10, .int .i64 f)] = some (cC c ++ [vsI s.en, vsB s.va, vsB s.inp, wv, wt, .int .i64 f]) := h
def pres21 : List (List Nat) := [[], [], [1], [], [3], [4], [], [6], [7], [5, 8], [0, 2, 9], [10], [11, 2, 0, 1, 2, 3, 4, 5, 6, 7, 8, 9, 10, 11], [12, 0, 1, 2, 3, 4, 5, 6, 7, 8, 9, 10, 11, 12]]
def rg21 (b : Nat) (ck : Nat) (c : Ctl) (s : Sta) : RegC where
 m := 11
 dst := fun j => j + 13
 qv := fun j => match j with
  | 0 => .c fun _ => .agg (cC c)
  | 1 => .c fun _ => .agg (cS s)
  | 3 => .c fun _ => .mptr b ck (0 + 0)
  | 4 => .c fun _ => .int .i64 c.act
  | 5 => .c fun _ => .int .i64 (IntKind.wrap .i64 (2 * c.act))
  | 6 => .c fun _ => .mptr b ck (0 + 1)
  | 7 => .c fun _ => vsN c.ins
  | 8 => .c fun _ => .int .i64 (c.ins.length : Nat)
  | 9 => .c fun _ => .int .i64 (fsC c : Nat)
  | 10 => .c fun nm => .agg (cC c ++ [vsI s.en, vsB s.va, vsB s.inp, wvA s.vals (nm 2 0) (nm 2 1), wtA true s.tms (nm 2 2) (nm 2 3), .int .i64 (fsC c : Nat)])
  | _ => .l
 lw := fun _ x => .agg [vsI s.en, vsB s.va, vsB s.inp, wvA s.vals (x 0) (x 1), wtA true s.tms (x 2) (x 3)]
 tl := fun _ x hp lo hi => (s.vals ≠ [] -> Am.look (x 0) hp = some (x 1, .cells (bC s.vals)) /\ lo <= x 0 /\ x 0 < hi) /\ (s.tms ≠ [] -> Am.look (x 2) hp = some (x 3, .cells (zC s.tms)) /\ lo <= x 2 /\ x 2 < hi) /\ (s.vals ≠ [] -> s.tms ≠ [] -> x 0 ≠ x 2)
 st := fun _ _ _ _ _ _ h hk => ⟨fun e => ⟨(hk _ (h.1 e).2.2).trans (h.1 e).1, (h.1 e).2⟩, fun e => ⟨(hk _ (h.2.1 e).2.2).trans (h.2.1 e).1, (h.2.1 e).2⟩, h.2.2⟩
theorem rok21 : zir 11 14 pres21 (fun j => j + 13) [2, 3] = true := by kernel_rfl
-- pneumatic/settle.of
def ic21 : IC := sR [oM 2 (.box (.t 0)),
  oM 3 (.box (.t 1)),
  oM 4 (.mov (.c (.nilp))),
  oM 5 (.mov (cI 0))]
 (.seq (sR [oL 7 5 2,
  oL 8 5 3,
  oM 9 (.call (.c (.fn 30 [] [])) [(.t 7), (.t 8)]),
  oT 6 9]
 (sR [oT 10 6,
  oM 11 (.bin .neq (.t 10) (cI 0))]
 (.cond (.t 11) (sR [oT 12 6,
  oM 4 (.mov (.c (.nilp))),
  oT 5 12]
 (.ret))
 (.skip))))
 (.seq (.region [oL 13 5 2,
  oL 14 5 3,
  oM 15 (.call (.c (.fn 39 [] [])) [(.t 14)]),
  oF 16 0 2,
  oN 17 16,
  oM 18 (.bin .mul (cI 2) (.t 17)),
  oF 19 1 2,
  oN 20 19,
  oM 21 (.len false (.t 20)),
  oM 22 (.bin .add (.t 18) (.t 21)),
  oM 23 (.build [.int .i64 0, .nils, .nils, .nils, .nils, .nils, .nils, .nils, .nils, .nils, .int .i64 0] [(0, 5, (.t 13)), (5, 5, (.t 15)), (10, 1, (.t 22))]),
  oM 24 (.box (.t 23)),
  oT 4 24,
  oM 5 (.mov (cI 0))] (some [[], [], [1], [], [3], [4], [], [6], [7], [5, 8], [0, 2, 9], [10], [11, 2, 0, 1, 2, 3, 4, 5, 6, 7, 8, 9, 10, 11], [12, 0, 1, 2, 3, 4, 5, 6, 7, 8, 9, 10, 11, 12]]))
 (.ret)))
theorem fn21 : env0.fn 21 = some ⟨25, ic21, [.t 4, .t 5]⟩ := by kernel_rfl
set_option maxHeartbeats 4000000 in
set_option maxRecDepth 100000 in
theorem of21 {w0 : World} {N0 : Nat} {c : Ctl} {s : Sta} (h : Ct c) (hs : Ss c s) (H : HS) :
  FT Tryz.prog w0 N0 21 [.agg (cC c), .agg (cS s)] H (fun v H' => ∃ q, v = .tup [.mptr q.m q.sm 0, .int .i64 0] /\ Mc c q s H' /\ Kp (fun _ => False) H H' /\ H.next <= q.m /\ (s.vals ≠ [] -> H.next <= q.iv) /\ (s.tms ≠ [] -> H.next <= q.it)) := by
 have p30 := right30 h hs;have hfi := zh7 h.toSm;obtain ⟨hp, nx, ck⟩ := H;refine zbl env0_ok fn21 [(0, .agg (cC c)), (1, .agg (cS s))] (y04 rfl) rfl ?_;unfold ic21;refine zsr rfl (zd6 rfl rfl (zd6 rfl rfl ?_));refine zcj ?_;have hlb : Am.look nx ((nx + 1, ck + 1, AObj.cells (cS s)) :: (nx, ck, .cells (cC c)) :: hp) = some (ck, .cells (cC c)) := (za5 (y07 _)).trans za3;have hlb2 : Am.look (nx + 1) ((nx + 1, ck + 1, AObj.cells (cS s)) :: (nx, ck, .cells (cC c)) :: hp) = some (ck + 1, .cells (cS s)) := za3;have hold : ∀ j, j < nx -> Am.look j ((nx + 1, ck + 1, AObj.cells (cS s)) :: (nx, ck, .cells (cC c)) :: hp) = Am.look j hp := fun j hj => (za5 (by show j < nx + 1; omega)).trans (za5 hj)
 refine zbp rfl hlb (by omega) rfl rfl ?_;refine zbp rfl hlb2 (by omega) rfl rfl ?_;refine zal rfl rfl p30 noC ?_;refine zb4 ?_;show Zm _ _ _ _ _ (st 25 _ ((nx + 1, ck + 1, AObj.cells (cS s)) :: (nx, ck, .cells (cC c)) :: hp) _ _) _ _;generalize ((nx + 1, ck + 1, AObj.cells (cS s)) :: (nx, ck, .cells (cC c)) :: hp) = hp1 at *;have hbx : nx < nx + 1 + 1 := by omega
 have hbx2 : nx + 1 < nx + 1 + 1 := by omega
 refine zpd env0_ok.mix fun rd => ?_;refine zg6 (rg21 nx ck c s) [(2, .mptr nx ck 0), (3, .mptr (nx + 1) (ck + 1) 0)] (fun j S => ∃ l hp nx3 ck3 q, S = st 25 l hp nx3 ck3 /\ nx + 1 < nx3 /\ (∀ j, j < nx -> Am.look j hp = Am.look j hp1) /\ (j = 11 -> zah 23 l = some (.agg (mcC c s q))) /\ (j = 12 -> zah 24 l = some (.mptr q.m q.sm 0)) /\ (13 <= j -> zah 4 l = some (.mptr q.m q.sm 0)) /\ (14 <= j -> zah 5 l = some (.int .i64 0)) /\ (12 <= j -> Am.look q.m hp = some (q.sm, .cells (mcC c s q)) /\ nx + 1 < q.m /\ q.m < nx3 /\ (s.vals ≠ [] -> q.iv ≠ q.m) /\ (s.tms ≠ [] -> q.it ≠ q.m)) /\ (s.vals ≠ [] -> Am.look q.iv hp = some (q.sv, .cells (bC s.vals)) /\ nx + 1 < q.iv /\ q.iv < nx3) /\ (s.tms ≠ [] -> Am.look q.it hp = some (q.tt, .cells (zC s.tms)) /\ nx + 1 < q.it /\ q.it < nx3) /\ (s.vals ≠ [] -> s.tms ≠ [] -> q.iv ≠ q.it)) 14 rfl rok21 ?_ ?_ ?_ ?_ ?_ ?_
 ·intro t v ht;rcases y0f.1 ht with e | ht
  ·cases e; rfl
  ·cases y0o.1 ht; rfl
 ·intro j f e nm nm' hp;unfold rg21 at e;dsimp only at e;split at e;all_goals first
   | (cases e; rfl)
   | (cases e; done)
   | (
     cases e;have a := hp 2 (by decide);show AV.agg _ = AV.agg _;rw [a])
 ·intro j hj n1 D l hp' nx' ck' nm lo hi hK hp;have hj : j < 11 := hj
  match j, hj with
   | 0, _ => exact fun go => za9 rfl rfl (zf7 (hK.bs 2 _ (y01 ..)) ((hK.ol nx hbx).trans hlb) (y09 hbx hK.bx) rfl rfl) go
   | 1, _ => exact fun go => za9 rfl rfl (zf7 (hK.bs 3 _ (me 1 rfl)) ((hK.ol (nx + 1) hbx2).trans hlb2) (y09 hbx2 hK.bx) rfl rfl) go
   | 2, _ =>
    intro go;refine af_ct (fv := .fn 39 [] []) _ rfl rfl rfl (zh0 (hK.q 1 _ (hp 1 (y01 ..)) rfl)) (zgo (zo9 (wv := vsB s.vals) (wt := vsI s.tms) hs.shs ⟨hp', nx', ck'⟩ (.inl rfl) (.inl rfl))) (fun v H _ m hm => absurd hm y0c) ?_;rintro v ⟨hp2, nx2, ck2⟩ ⟨n1, s1, n2, s2, rfl, hc⟩;refine go (fun j => match j with | 0 => n1 | 1 => s1 | 2 => n2 | _ => s2) hp2 nx2 ck2 hc.kp.next (fun j hj => hc.kp.look j (fun h => h) hj) ⟨hc.hv, hc.ht, hc.ne⟩
   | 3, _ => exact fun go => za9 rfl rfl (zat (hK.bs 2 _ (y01 ..))) go
   | 4, _ => exact fun go => za9 rfl rfl (zba (hK.q 3 _ (hp 3 (y01 ..)) rfl) ((hK.ol nx hbx).trans hlb) (y09 hbx hK.bx) rfl) go
   | 5, _ => exact fun go => za9 rfl rfl (g_bin rfl (hK.q 4 _ (hp 4 (y01 ..)) rfl) rfl) go
   | 6, _ => exact fun go => za9 rfl rfl (zat (hK.bs 2 _ (y01 ..))) go
   | 7, _ => exact fun go => za9 rfl rfl (zba (hK.q 6 _ (hp 6 (y01 ..)) rfl) ((hK.ol nx hbx).trans hlb) (y09 hbx hK.bx) rfl) go
   | 8, _ => exact fun go => za9 rfl rfl (zvh (hK.q 7 _ (hp 7 (y01 ..)) rfl) (congrArg (fun x : Nat => some (AV.int .i64 (x : Int))) (y06 (fun s => [AV.str s])))) go
   | 9, _ => exact fun go => za9 rfl rfl (g_bin (hK.q 5 _ (hp 5 (y01 ..)) rfl) (hK.q 8 _ (hp 8 (me 1 rfl)) rfl) (congrArg (fun x => some (AV.int .i64 x)) hfi)) go
   | 10, _ => exact fun go => za9 rfl rfl (zi0 (parts21 (hK.q 0 _ (hp 0 (y01 ..)) rfl) (hK.lv 2 (hp 2 (me 1 rfl)) rfl) (hK.q 9 _ (hp 9 (me 2 rfl)) rfl)) fill21) go
   | j + 11, h => exact absurd h (by omega)
 ·intro l hp' nx' ck' nm lo hi hK;have m : ∀ j, j < 11 -> j ∈ List.range 11 := fun j hj => y0m.2 hj;obtain ⟨⟨t1, t2, t3⟩, b1, b2⟩ := hK.lh 2 (m 2 (by decide)) rfl;have b1 : nx + 1 + 1 <= lo 2 := b1;refine ⟨l, hp', nx', ck', ⟨0, 0, nm 2 0, nm 2 1, nm 2 2, nm 2 3⟩, rfl, hK.bx, fun j hj => hK.ol j (by show j < nx + 1 + 1; omega), fun _ => hK.q 10 _ (m 10 (by decide)) rfl, fun h => absurd h (by show ¬ 11 = 12; decide), fun h => absurd h (by show ¬ 13 <= 11; decide), fun h => absurd h (by show ¬ 14 <= 11; decide), fun h => absurd h (by show ¬ 12 <= 11; decide), fun e => ⟨(t1 e).1, ?_, ?_⟩, fun e => ⟨(t2 e).1, ?_, ?_⟩, t3⟩
  ·have := (t1 e).2.1; show nx + 1 < nm 2 0; omega
  ·have := (t1 e).2.2; show nm 2 0 < nx'; omega
  ·have := (t2 e).2.1; show nx + 1 < nm 2 2; omega
  ·have := (t2 e).2.2; show nm 2 2 < nx'; omega
 ·rintro j h1 h2 S ⟨l, hp', nx3, ck3, q, rfl, hn3, ho, k1, k2, k3, k4, k5, kv, kt, kn⟩ m1 D go;have h1 : 11 <= j := h1;obtain rfl | rfl | rfl : j = 11 \/ j = 12 \/ j = 13 := by omega
  ·refine za9 rfl rfl (g_box (k1 rfl) rfl) (go _ ⟨_, _, _, _, ⟨nx3, ck3, q.iv, q.sv, q.it, q.tt⟩, rfl, y15 hn3, fun j hj => (za5 (by omega)).trans (ho j hj), fun h => absurd h (by decide), fun _ => rfl, fun h => absurd h (by decide), fun h => absurd h (by decide), fun _ => ⟨za3, hn3, y07 _, fun e => ?_, fun e => ?_⟩, fun e => ⟨(za5 (kv e).2.2).trans (kv e).1, (kv e).2.1, y15 (kv e).2.2⟩, fun e => ⟨(za5 (kt e).2.2).trans (kt e).1, (kt e).2.1, y15 (kt e).2.2⟩, kn⟩)
   ·have := (kv e).2.2; show q.iv ≠ nx3; omega
   ·have := (kt e).2.2; show q.it ≠ nx3; omega
  ·exact za9 rfl rfl (zha (k2 rfl)) (go _ ⟨_, _, _, _, q, rfl, hn3, ho, fun h => absurd h (by decide), fun h => absurd h (by decide), fun _ => rfl, fun h => absurd h (by decide), fun _ => k5 (by decide), kv, kt, kn⟩)
  ·exact za9 rfl rfl (zha rfl) (go _ ⟨_, _, _, _, q, rfl, hn3, ho, fun h => absurd h (by decide), fun h => absurd h (by decide), fun _ => k3 (by decide), fun _ => rfl, fun _ => k5 (by decide), kv, kt, kn⟩)
 ·rintro S ⟨l, hp', nx3, ck3, q, rfl, hn3, ho, _, _, k3, k4, k5, kv, kt, kn⟩;obtain ⟨e1, e2, e3, e4, e5⟩ := k5 (by decide);refine Um.ok ?_;refine zau (zby ?_);refine zaa ⟨.inr rfl, _, ?_, q, rfl, ⟨e1, e3, fun e => ⟨(kv e).1, (kv e).2.2, e4 e⟩, fun e => ⟨(kt e).1, (kt e).2.2, e5 e⟩, kn⟩, ⟨by show nx <= nx3; omega, fun j _ hj => (ho j hj).trans (hold j hj)⟩, by show nx <= q.m; omega, fun e => by have := (kv e).2.1; show nx <= q.iv; omega, fun e => by have := (kt e).2.1; show nx <= q.it; omega⟩
  show AS.res (st 25 l hp' nx3 ck3) [.t 4, .t 5] = _;simp only [AS.res, AS.resL, zch, k3 (by decide), k4 (by decide)]
theorem zqr {a b : Nat} {v w : AV} {l : List (Nat × AV)} (h : zah a l = some v) (h2 : zah b l = some w) : zeo [.t a, .t b] l = some [v, w] := by
 simp only [zeo, zar, h, h2]
theorem argsA3 {a b c : Nat} {v w u : AV} {l : List (Nat × AV)} (h : zah a l = some v) (h2 : zah b l = some w) (h3 : zah c l = some u) : zeo [.t a, .t b, .t c] l = some [v, w, u] := by
 simp only [zeo, zar, h, h2, h3]
theorem parts3 {a b : Nat} {v : Bool} {t : Int} {l : List (Nat × AV)} (h : zah a l = some (.bool v)) (h2 : zah b l = some (.int .i64 t)) : ze9 [(0, 1, (.t a)), (1, 1, (.t b)), (2, 1, (.c (.bool false)))] l = some [(0, .bool v), (1, .int .i64 t), (2, .bool false)] := by
 simp only [ze9, zar, h, h2];rfl
def ios29 : List Opr := [oF 32 1 9, oN 33 32, oM 34 (.idxarr 3 1 (.t 6) (.t 33)), oN 35 34, oT 36 0, oM 37 (.nilchk (.t 36)), oF 38 5 37, oF 39 3 38, oN 40 39, oT 41 8, oM 42 (.idxs 1 (.t 40) (.t 41)), oN 43 42, oT 44 0, oM 45 (.nilchk (.t 44)), oF 46 5 45, oF 47 4 46, oN 48 47, oT 49 8, oM 50 (.idxs 1 (.t 48) (.t 49)), oN 51 50, oM 52 (.build [.bool false, .int .i64 0, .bool false] [(0, 1, (.t 43)), (1, 1, (.t 51)), (2, 1, (.c (.bool false)))]), oF 53 2 9, oL 54 3 53, oT 55 5, oM 56 (.call (.c (.fn 55 [] [])) [(.t 54), (.t 55)]), oF 57 1 9, oN 58 57, oM 59 (.bin .eql (.t 58) (cI 1)), oT 60 59, ⟨(some 61), .faddr 5 (.t 9), some (60, true)⟩, ⟨(some 62), .load (some 3) (.t 61), some (60, true)⟩, ⟨(some 63), .mov (.t 5), some (60, true)⟩, ⟨(some 64), .call (.c (.fn 55 [] [])) [(.t 62), (.t 63)], some (60, true)⟩, oM 65 (.pick (.t 60) (.t 64) (.c (.bool false))), oM 66 (.call (.t 35) [(.t 52), (.t 56), (.t 65)]), oM 10 (.alloc [.bool false, .int .i64 0, .bool false]), ⟨none, .store 3 (.t 10) (.t 66), none⟩]
def pres29 : List (List Nat) := [[], [0], [1], [2], [], [4], [5], [6], [7], [], [8, 9], [10], [], [12], [13], [14], [15], [], [16, 17], [18], [11, 19], [], [21], [], [22, 23], [], [25], [26], [27, 24], [28], [29, 28], [28], [30, 31, 28, 28], [28, 32], [3, 20, 24, 33, 32], [], [35, 34, 34, 0, 1, 2, 3, 4, 5, 6, 7, 8, 9, 10, 11, 12, 13, 14, 15, 16, 17, 18, 19, 20, 21, 22, 23, 24, 25, 26, 27, 28, 29, 30, 31, 32, 33, 34, 35]]
def rul3 : List AV := [.fn 75 [] [], .fn 76 [] [], .fn 77 [] []]
def zgj (c : Ctl) (q : Nms) (bf w : AV) (i nl sl nr sr ng sg : Nat) : List (Nat × AV) := [(0, .mptr q.m q.sm 0), (4, bf), (5, .ms nl sl 1 0 (lnC c) none), (6, .mptr nr sr 0), (7, w), (8, .int .i64 (i : Nat)), (9, .mptr ng sg 0), (25, vsG c.sg), (26, .int .i64 (c.sg.length : Nat)), (27, .int .i64 (i : Nat))]
def rg29 (c : Ctl) (s : Sta) (q : Nms) (i nl sl nr sr ng sg : Nat) (x : Sig) (v : List Bool) (b : Bool) : RegC where
 m := 36
 dst := fun j => match j with | 35 => 10 | j => j + 32
 qv := fun j => match j with
  | 0 => .c fun _ => .mptr ng sg (0 + 1)
  | 1 => .c fun _ => .int .i64 x.kd
  | 2 => .c fun _ => .mptr nr sr (0 + x.kd.toNat * 1)
  | 3 => .c fun _ => .fn (75 + x.kd.toNat) [] []
  | 4 => .c fun _ => .mptr q.m q.sm 0
  | 5 => .c fun _ => .mptr q.m q.sm 0
  | 6 => .c fun _ => .mptr q.m q.sm (0 + 5)
  | 7 => .c fun _ => .mptr q.m q.sm (0 + 5 + 3)
  | 8 => .c fun _ => .ms q.iv q.sv 1 0 s.vals.length none
  | 9 => .c fun _ => .int .i64 (i : Nat)
  | 10 => .c fun _ => .mptr q.iv q.sv (0 + ((i : Nat) : Int).toNat * 1)
  | 11 => .c fun _ => .bool (bA s.vals i)
  | 12 => .c fun _ => .mptr q.m q.sm 0
  | 13 => .c fun _ => .mptr q.m q.sm 0
  | 14 => .c fun _ => .mptr q.m q.sm (0 + 5)
  | 15 => .c fun _ => .mptr q.m q.sm (0 + 5 + 4)
  | 16 => .c fun _ => .ms q.it q.tt 1 0 s.tms.length none
  | 17 => .c fun _ => .int .i64 (i : Nat)
  | 18 => .c fun _ => .mptr q.it q.tt (0 + ((i : Nat) : Int).toNat * 1)
  | 19 => .c fun _ => .int .i64 (zA s.tms i)
  | 20 => .c fun _ => .agg (cCh (bA s.vals i) (zA s.tms i) false)
  | 21 => .c fun _ => .mptr ng sg (0 + 2)
  | 22 => .c fun _ => .agg (c3 x.on)
  | 23 => .c fun _ => .ms nl sl 1 0 (lnC c) none
  | 24 => .c fun _ => .bool (zas v x.on)
  | 25 => .c fun _ => .mptr ng sg (0 + 1)
  | 26 => .c fun _ => .int .i64 x.kd
  | 27 => .c fun _ => .bool b
  | 28 => .c fun _ => .bool b
  | 29 => .c fun _ => cond b (.mptr ng sg (0 + 5)) (.tup [])
  | 30 => .c fun _ => cond b (.agg (c3 x.off)) (.tup [])
  | 31 => .c fun _ => cond b (.ms nl sl 1 0 (lnC c) none) (.tup [])
  | 32 => .c fun _ => cond b (.bool (zas v x.off)) (.tup [])
  | 33 => .c fun _ => .bool (b && zas v x.off)
  | 34 => .c fun _ => rulA x.kd (bA s.vals i) (zA s.tms i) (zas v x.on) (b && zas v x.off)
  | _ => .l
 lw := fun _ x => .mptr (x 0) (x 1) 0
 tl := fun _ x hp lo hi => Am.look (x 0) hp = some (x 1, .cells (cCh false 0 false)) /\ lo <= x 0 /\ x 0 < hi
 st := fun _ _ _ _ _ _ h hk => ⟨(hk _ h.2.2).trans h.1, h.2⟩
theorem rok29 : zir 36 37 pres29 (fun j => match j with | 35 => 10 | j => j + 32) [0, 4, 5, 6, 7, 8, 9, 25, 26, 27] = true := by kernel_rfl
set_option maxHeartbeats 4000000 in
set_option maxRecDepth 100000 in
theorem reg29 {w0 : World} {N0 : Nat} {c : Ctl} {s : Sta} {q : Nms} {i nl sl nr sr ng sg : Nat} {x : Sig} {v : List Bool} {bf w : AV} {l0 : List (Nat × AV)} {hp0 : List (Nat × Nat × AObj)} {nx0 ck0 : Nat} (hM : Mc c q s ⟨hp0, nx0, ck0⟩) (hvi : i < s.vals.length) (hti : i < s.tms.length) (hkd : x.kd = 0 \/ x.kd = 1 \/ x.kd = 2)
  (hvl : v.length = lnC c) (hon : nds v.length x.on = 0) (hoff : x.kd = 1 -> nds v.length x.off = 0) (hL : Am.look nl hp0 = some (sl, .cells (bC v))) (hnl : nl < nx0) (hR : Am.look nr hp0 = some (sr, .cells rul3)) (hnr : nr < nx0) (hG : Am.look ng hp0 = some (sg, .cells (c10 x))) (hng : ng < nx0)
  (hb0 : ∀ t v, (t, v) ∈ zgj c q bf w i nl sl nr sr ng sg -> zah t l0 = some v) {y : IC} {k : List Fr} {Q : Exit -> AS -> Prop}
  (go : ∀ hp nx ck n10 s10, nx0 <= n10 -> n10 < nx -> (∀ j, j < nx0 -> Am.look j hp = Am.look j hp0) -> Am.look n10 hp = some (s10, .cells (cCh (rul x.kd (bA s.vals i) (zA s.tms i) (zas v x.on) (decide (x.kd = 1) && zas v x.off)).1 (rul x.kd (bA s.vals i) (zA s.tms i) (zas v x.on) (decide (x.kd = 1) && zas v x.off)).2.1 (rul x.kd (bA s.vals i) (zA s.tms i) (zas v x.on) (decide (x.kd = 1) && zas v x.off)).2.2)) ->
   Zm Tryz.prog w0 N0 (some none) y (st 105 ((10, .mptr n10 s10 0) :: zgj c q bf w i nl sl nr sr ng sg) hp nx ck) k Q) :
  Zm Tryz.prog w0 N0 (some none) (.region ios29 (some pres29)) (st 105 l0 hp0 nx0 ck0) (.seq y :: k) Q := by
 have hvne : s.vals ≠ [] := fun e => by rw [e] at hvi; exact absurd hvi (y1q _)
 have htne : s.tms ≠ [] := fun e => by rw [e] at hti; exact absurd hti (y1q _)
 have hk3 : decide (0 <= x.kd /\ x.kd < ((3 : Nat) : Int)) = true := by rcases hkd with e | e | e <;> rw [e] <;> rfl
 have hdr : rul3.drop (0 + x.kd.toNat * 1) = .fn (75 + x.kd.toNat) [] [] :: rul3.drop (x.kd.toNat + 1) := by rcases hkd with e | e | e <;> rw [e] <;> rfl
 have hdv : (bC s.vals).drop (0 + ((i : Nat) : Int).toNat * 1) = .bool (bA s.vals i) :: (bC s.vals).drop (i + 1) := by
  rw [show 0 + ((i : Nat) : Int).toNat * 1 = i by simp, y0q (by rw [zd0]; exact hvi)]
  unfold bC;rw [List.getElem_map, bA_at hvi]
 have hdt : (zC s.tms).drop (0 + ((i : Nat) : Int).toNat * 1) = .int .i64 (zA s.tms i) :: (zC s.tms).drop (i + 1) := by
  rw [show 0 + ((i : Nat) : Int).toNat * 1 = i by simp, y0q (by unfold zC; rw [y06]; exact hti)]
  unfold zC;rw [List.getElem_map, zqj hti]
 have hm8 : (mcC c s q).drop (0 + 5 + 3) = .ms q.iv q.sv 1 0 s.vals.length none :: [wtA true s.tms q.it q.tt, .int .i64 (fsC c : Nat)] := by
  show wvA s.vals q.iv q.sv :: _ = _;rw [zl2 hvne]
 have hm9 : (mcC c s q).drop (0 + 5 + 4) = .ms q.it q.tt 1 0 s.tms.length none :: [.int .i64 (fsC c : Nat)] := by
  show wtA true s.tms q.it q.tt :: _ = _;rw [zih htne]
 have pon := zqi v _ x.on (y08 _) hon;have poff : x.kd = 1 -> PF Tryz.prog 55 [.agg (cX x.off), vsB v] (.bool (zas v x.off)) := fun e => zqi v _ x.off (y08 _) (hoff e);rw [zhv] at pon poff;have prl : ∀ a t on off, PF Tryz.prog (75 + x.kd.toNat) [.agg (cCh a t false), .bool on, .bool off] (rulA x.kd a t on off) := fun a t on off => by
  rcases hkd with e | e | e <;> rw [e]
  ·exact rule75 a t on off
  ·exact rule76 a t on off
  ·exact rule77 a t on off
 obtain ⟨b, hb⟩ : ∃ b, b = decide (x.kd = 1) := ⟨_, rfl⟩
 have hbb : Am.binOp .eql (.int .i64 x.kd) (.int .i64 1) = some (.bool b) := by rw [hb]; rfl
 have poff : b = true -> PF Tryz.prog 55 [.agg (c3 x.off), vsB v] (.bool (zas v x.off)) := fun e => poff (of_decide_eq_true (hb.symm.trans e));rw [<- hb] at go;refine zpd env0_ok.mix fun rd => ?_;refine zg6 (rg29 c s q i nl sl nr sr ng sg x v b) (zgj c q bf w i nl sl nr sr ng sg) (fun j S => ∃ l hp nx ck n10 s10, S = st 105 l hp nx ck /\ (∀ t v, (t, v) ∈ zgj c q bf w i nl sl nr sr ng sg -> zah t l = some v) /\ zah 10 l = some (.mptr n10 s10 0) /\ nx0 <= n10 /\ n10 < nx /\ (∀ j, j < nx0 -> Am.look j hp = Am.look j hp0) /\ (j = 36 -> Am.look n10 hp = some (s10, .cells (cCh false 0 false)) /\ zah 66 l = some (rulA x.kd (bA s.vals i) (zA s.tms i) (zas v x.on) (b && zas v x.off))) /\
  (j = 37 -> Am.look n10 hp = some (s10, .cells (cCh (rul x.kd (bA s.vals i) (zA s.tms i) (zas v x.on) (b && zas v x.off)).1 (rul x.kd (bA s.vals i) (zA s.tms i) (zas v x.on) (b && zas v x.off)).2.1 (rul x.kd (bA s.vals i) (zA s.tms i) (zas v x.on) (b && zas v x.off)).2.2)))) 37 rfl rok29 hb0 ?_ ?_ ?_ ?_ ?_
 ·intro j f e nm nm' hp;unfold rg29 at e;dsimp only at e;split at e;all_goals first
   | (cases e; rfl)
   | (cases e; done)
 ·intro j hj n1 D l hp' nx' ck' nm lo hi hK hp;have hj : j < 36 := hj
  match j, hj with
   | 0, _ =>
    exact fun go => za9 rfl rfl (zat (hK.bs 9 _ (me 6 rfl))) go
   | 1, _ =>
    exact fun go => za9 rfl rfl (zba (hK.q 0 _ (hp 0 (y01 ..)) rfl) ((hK.ol _ hng).trans hG) (y09 hng hK.bx) rfl) go
   | 2, _ =>
    exact fun go => za9 rfl rfl (zod (hK.bs 6 _ (me 3 rfl)) (hK.q 1 _ (hp 1 (y01 ..)) rfl) hk3) go
   | 3, _ =>
    exact fun go => za9 rfl rfl (zba (hK.q 2 _ (hp 2 (y01 ..)) rfl) ((hK.ol _ hnr).trans hR) (y09 hnr hK.bx) hdr) go
   | 4, _ =>
    exact fun go => za9 rfl rfl (zha (hK.bs 0 _ (y01 ..))) go
   | 5, _ =>
    exact fun go => za9 rfl rfl (zvk (hK.q 4 _ (hp 4 (y01 ..)) rfl)) go
   | 6, _ =>
    exact fun go => za9 rfl rfl (zat (hK.q 5 _ (hp 5 (y01 ..)) rfl)) go
   | 7, _ =>
    exact fun go => za9 rfl rfl (zat (hK.q 6 _ (hp 6 (y01 ..)) rfl)) go
   | 8, _ =>
    exact fun go => za9 rfl rfl (zba (hK.q 7 _ (hp 7 (y01 ..)) rfl) ((hK.ol _ hM.lm).trans hM.hm) (y09 hM.lm hK.bx) hm8) go
   | 9, _ =>
    exact fun go => za9 rfl rfl (zha (hK.bs 8 _ (me 5 rfl))) go
   | 10, _ =>
    exact fun go => za9 rfl rfl (zmv (hK.q 8 _ (hp 8 (y01 ..)) rfl) (hK.q 9 _ (hp 9 (me 1 rfl)) rfl) (y11 _) (by omega)) go
   | 11, _ =>
    exact fun go => za9 rfl rfl (zba (hK.q 10 _ (hp 10 (y01 ..)) rfl) ((hK.ol _ (hM.hv hvne).2.1).trans (hM.hv hvne).1) (y09 (hM.hv hvne).2.1 hK.bx) hdv) go
   | 12, _ =>
    exact fun go => za9 rfl rfl (zha (hK.bs 0 _ (y01 ..))) go
   | 13, _ =>
    exact fun go => za9 rfl rfl (zvk (hK.q 12 _ (hp 12 (y01 ..)) rfl)) go
   | 14, _ =>
    exact fun go => za9 rfl rfl (zat (hK.q 13 _ (hp 13 (y01 ..)) rfl)) go
   | 15, _ =>
    exact fun go => za9 rfl rfl (zat (hK.q 14 _ (hp 14 (y01 ..)) rfl)) go
   | 16, _ =>
    exact fun go => za9 rfl rfl (zba (hK.q 15 _ (hp 15 (y01 ..)) rfl) ((hK.ol _ hM.lm).trans hM.hm) (y09 hM.lm hK.bx) hm9) go
   | 17, _ =>
    exact fun go => za9 rfl rfl (zha (hK.bs 8 _ (me 5 rfl))) go
   | 18, _ =>
    exact fun go => za9 rfl rfl (zmv (hK.q 16 _ (hp 16 (y01 ..)) rfl) (hK.q 17 _ (hp 17 (me 1 rfl)) rfl) (y11 _) (by omega)) go
   | 19, _ =>
    exact fun go => za9 rfl rfl (zba (hK.q 18 _ (hp 18 (y01 ..)) rfl) ((hK.ol _ (hM.ht htne).2.1).trans (hM.ht htne).1) (y09 (hM.ht htne).2.1 hK.bx) hdt) go
   | 20, _ =>
    exact fun go => za9 rfl rfl (zi0 (parts3 (hK.q 11 _ (hp 11 (y01 ..)) rfl) (hK.q 19 _ (hp 19 (me 1 rfl)) rfl)) rfl) go
   | 21, _ =>
    exact fun go => za9 rfl rfl (zat (hK.bs 9 _ (me 6 rfl))) go
   | 22, _ =>
    exact fun go => za9 rfl rfl (zf7 (hK.q 21 _ (hp 21 (y01 ..)) rfl) ((hK.ol _ hng).trans hG) (y09 hng hK.bx) rfl rfl) go
   | 23, _ =>
    exact fun go => za9 rfl rfl (zha (hK.bs 5 _ (me 2 rfl))) go
   | 24, _ =>
    exact fun go => zix rfl rfl rfl rfl (zqr (hK.q 22 _ (hp 22 (y01 ..)) rfl) (hK.q 23 _ (hp 23 (me 1 rfl)) rfl)) (by show [_, AS.view _ VD (.ms nl sl 1 0 (lnC c) none)] = _; rw [show VD = (VD - 1) + 1 from rfl, zd5 v hvl ((hK.ol _ hnl).trans hL)]; rfl) pon (fun _ => rfl) go
   | 25, _ =>
    exact fun go => za9 rfl rfl (zat (hK.bs 9 _ (me 6 rfl))) go
   | 26, _ =>
    exact fun go => za9 rfl rfl (zba (hK.q 25 _ (hp 25 (y01 ..)) rfl) ((hK.ol _ hng).trans hG) (y09 hng hK.bx) rfl) go
   | 27, _ =>
    exact fun go => za9 rfl rfl (g_bin (hK.q 26 _ (hp 26 (y01 ..)) rfl) rfl hbb) go
   | 28, _ =>
    exact fun go => za9 rfl rfl (zha (hK.q 27 _ (hp 27 (y01 ..)) rfl)) go
   | 29, _ =>
    cases b with
    | false => exact fun go => zmj rfl rfl (hK.q 28 _ (hp 28 (y01 ..)) rfl) rfl go
    | true => exact fun go => ztz rfl rfl (hK.q 28 _ (hp 28 (y01 ..)) rfl) rfl (zat (hK.bs 9 _ (me 6 rfl))) go
   | 30, _ =>
    cases b with
    | false => exact fun go => zmj rfl rfl (hK.q 28 _ (hp 28 (me 1 rfl)) rfl) rfl go
    | true => exact fun go => ztz rfl rfl (hK.q 28 _ (hp 28 (me 1 rfl)) rfl) rfl (zf7 (hK.q 29 _ (hp 29 (y01 ..)) rfl) ((hK.ol _ hng).trans hG) (y09 hng hK.bx) rfl rfl) go
   | 31, _ =>
    cases b with
    | false => exact fun go => zmj rfl rfl (hK.q 28 _ (hp 28 (y01 ..)) rfl) rfl go
    | true => exact fun go => ztz rfl rfl (hK.q 28 _ (hp 28 (y01 ..)) rfl) rfl (zha (hK.bs 5 _ (me 2 rfl))) go
   | 32, _ =>
    cases b with
    | false => exact fun go => zmj rfl rfl (hK.q 28 _ (hp 28 (me 2 rfl)) rfl) rfl go
    | true => exact fun go => zix rfl rfl (znp (hK.q 28 _ (hp 28 (me 2 rfl)) rfl)) rfl (zqr (hK.q 30 _ (hp 30 (y01 ..)) rfl) (hK.q 31 _ (hp 31 (me 1 rfl)) rfl)) (by show [_, AS.view _ VD (.ms nl sl 1 0 (lnC c) none)] = _; rw [show VD = (VD - 1) + 1 from rfl, zd5 v hvl ((hK.ol _ hnl).trans hL)]; rfl) (poff rfl) (fun _ => rfl) go
   | 33, _ =>
    cases b with
    | false => exact fun go => za9 rfl rfl (zvl (hK.q 28 _ (hp 28 (y01 ..)) rfl) rfl) go
    | true => exact fun go => za9 rfl rfl (zvm (hK.q 28 _ (hp 28 (y01 ..)) rfl) (hK.q 32 _ (hp 32 (me 1 rfl)) rfl)) go
   | 34, _ =>
    exact fun go => zix rfl rfl rfl (hK.q 3 _ (hp 3 (y01 ..)) rfl) (argsA3 (hK.q 20 _ (hp 20 (me 1 rfl)) rfl) (hK.q 24 _ (hp 24 (me 2 rfl)) rfl) (hK.q 33 _ (hp 33 (me 3 rfl)) rfl)) rfl (prl _ _ _ _) noC go
   | 35, _ => exact fun go => za9 rfl rfl zhz (go (fun j => match j with | 0 => nx' | _ => ck') _ _ _ (y0y _) (fun j hj => za5 hj) ⟨za3, y08 _, y07 _⟩)
   | j + 36, h => exact absurd h (by omega)
 ·intro l hp' nx' ck' nm lo hi hK;have m : ∀ j, j < 36 -> j ∈ List.range 36 := fun j hj => y0m.2 hj;obtain ⟨⟨t1, t2, t3⟩, b1, b2⟩ := hK.lh 35 (m 35 (by decide)) rfl;exact ⟨l, hp', nx', ck', nm 35 0, nm 35 1, rfl, hK.bs, hK.lv 35 (m 35 (by decide)) rfl, y0u b1 t2, y09 t3 b2, hK.ol, fun _ => ⟨t1, hK.q 34 _ (m 34 (by decide)) rfl⟩, fun h => absurd h (by show ¬ 36 = 37; decide)⟩
 ·rintro j h1 h2 S ⟨l, hp', nx3, ck3, n10, s10, rfl, hbs, l10, k1, k2, ho, k3, _⟩ m1 D go;have h1 : 36 <= j := h1;obtain rfl : j = 36 := by omega
  obtain ⟨k3, q5⟩ := k3 rfl;refine zik rfl (zf8 l10 q5 rfl rfl k3 rfl rfl) (go _ ⟨l, _, _, _, n10, s10, rfl, hbs, l10, k1, k2, fun j hj => ?_, fun h => absurd h (by decide), fun _ => ?_⟩)
  ·rw [za0, if_neg (by omega)]; exact ho j hj
  ·rw [za0, if_pos rfl]; rfl
 ·rintro S ⟨l, hp', nx3, ck3, n10, s10, rfl, hbs, l10, k1, k2, ho, _, k4⟩;refine Um.ok (zau (zpe (md := some none) (zb9 ?_) (go hp' nx3 ck3 n10 s10 k1 k2 ho (k4 rfl))));exact .cons l10 (.cons (hbs _ _ (y01 ..)) (.cons (hbs _ _ (me 1 rfl)) (.cons (hbs _ _ (me 2 rfl)) (.cons (hbs _ _ (me 3 rfl)) (.cons (hbs _ _ (me 4 rfl)) (.cons (hbs _ _ (me 5 rfl)) (.cons (hbs _ _ (me 6 rfl)) (.cons (hbs _ _ (me 7 rfl)) (.cons (hbs _ _ (me 8 rfl)) (.cons (hbs _ _ (me 9 rfl)) (.nil)))))))))))
set_option maxRecDepth 100000
def putR (s : Sta) (i : Nat) (b : Bool) (t : Int) : Sta := ⟨s.en, s.va, s.inp, s.vals.set i b, s.tms.set i t⟩
theorem wtA_len {v w : List Int} {n s : Nat} (h : v.length = w.length) : wtA true v n s = wtA true w n s := by
 by_cases e : v = []
 ·have e2 : w = [] := y0k.1 (by rw [<- h, e]; rfl);rw [e, e2]
 ·exact wtA_same h e
theorem zC_set (v : List Int) (i : Nat) (b : Int) : (zC v).set i (.int .i64 b) = zC (v.set i b) := by
 unfold zC;rw [List.map_set]
theorem zsk (v : List Int) : (zC v).length = v.length := y06 ..
theorem Mc.putR {c : Ctl} {q : Nms} {s : Sta} {hp : List (Nat × Nat × AObj)} {nx ck : Nat} (h : Mc c q s ⟨hp, nx, ck⟩) (hv : s.vals ≠ []) (ht : s.tms ≠ []) (i : Nat) (b : Bool) (t : Int) :
  Mc c q (putR s i b t) ⟨zap q.it (q.tt, .cells ((zC s.tms).set i (.int .i64 t))) (zap q.iv (q.sv, .cells ((bC s.vals).set i (.bool b))) hp), nx, ck⟩ := by
 obtain ⟨a1, a2, a3⟩ := h.hv hv;obtain ⟨b1, b2, b3⟩ := h.ht ht;refine ⟨?_, h.lm, fun _ => ⟨?_, a2, a3⟩, fun _ => ⟨?_, b2, b3⟩, fun _ _ => h.ne hv ht⟩
 ·rw [za0, if_neg b3, za0, if_neg a3];have : mcC c (Go.Proofs.YtdolbghhcijonaaGreat.putR s i b t) q = mcC c s q := by
   unfold mcC Go.Proofs.YtdolbghhcijonaaGreat.putR;rw [zsj (y24 ..), wtA_len (y24 ..)]
  rw [this];exact h.hm
 ·rw [za0, if_neg fun e => h.ne hv ht e.symm, za0, if_pos rfl, zld];rfl
 ·rw [za0, if_pos rfl, zC_set];rfl
def ios29b : List Opr := [oT 67 0, oM 68 (.nilchk (.t 67)), oF 69 5 68, oF 70 3 69, oN 71 70, oT 72 8, oT 73 0, oM 74 (.nilchk (.t 73)), oF 75 5 74, oF 76 4 75, oN 77 76, oT 78 8, oF 79 0 10, oN 80 79, oF 81 1 10, oN 82 81, oM 83 (.idxs 1 (.t 71) (.t 72)), ⟨none, .store 1 (.t 83) (.t 80), none⟩, oM 84 (.idxs 1 (.t 77) (.t 78)), ⟨none, .store 1 (.t 84) (.t 82), none⟩]
def pres29b : List (List Nat) := [[], [0], [1], [2], [3], [], [], [6], [7], [8], [9], [], [], [12], [], [14], [4, 5, 0, 1, 2, 3, 4, 5, 10, 12, 13], [16, 13, 0, 1, 2, 3, 4, 5, 10, 12, 13], [10, 11, 0, 1, 2, 3, 4, 5, 6, 7, 8, 9, 10, 11, 12, 13, 14, 15, 16, 17], [18, 15, 17, 0, 1, 2, 3, 4, 5, 6, 7, 8, 9, 10, 11, 12, 13, 14, 15, 16, 17]]
set_option maxHeartbeats 4000000 in
set_option maxRecDepth 100000 in
theorem put29 {w0 : World} {N0 : Nat} {c : Ctl} {s : Sta} {q : Nms} {i nl sl nr sr ng sg n10 s10 : Nat} {b f : Bool} {t : Int} {bf w : AV} {hp : List (Nat × Nat × AObj)} {nx ck : Nat} (hM : Mc c q s ⟨hp, nx, ck⟩) (hvi : i < s.vals.length) (hti : i < s.tms.length)
  (h10 : Am.look n10 hp = some (s10, .cells (cCh b t f))) (hn : n10 < nx) (hd : n10 ≠ q.iv /\ n10 ≠ q.it) {y : IC} {k : List Fr} {Q : Exit -> AS -> Prop}
  (go : Zm Tryz.prog w0 N0 (some none) y (st 105 ((10, .mptr n10 s10 0) :: zgj c q bf w i nl sl nr sr ng sg) (zap q.it (q.tt, .cells ((zC s.tms).set i (.int .i64 t))) (zap q.iv (q.sv, .cells ((bC s.vals).set i (.bool b))) hp)) nx ck) k Q) :
  Zm Tryz.prog w0 N0 (some none) (.region ios29b (some pres29b)) (st 105 ((10, .mptr n10 s10 0) :: zgj c q bf w i nl sl nr sr ng sg) hp nx ck) (.seq y :: k) Q := by
 have hvne : s.vals ≠ [] := fun e => by rw [e] at hvi; exact absurd hvi (y1q _)
 have htne : s.tms ≠ [] := fun e => by rw [e] at hti; exact absurd hti (y1q _)
 obtain ⟨v1, v2, v3⟩ := hM.hv hvne;obtain ⟨t1, t2, t3⟩ := hM.ht htne;have hne := hM.ne hvne htne;have hm8 : (mcC c s q).drop (0 + 5 + 3) = .ms q.iv q.sv 1 0 s.vals.length none :: [wtA true s.tms q.it q.tt, .int .i64 (fsC c : Nat)] := by
  show wvA s.vals q.iv q.sv :: _ = _;rw [zl2 hvne]
 have hm9 : (mcC c s q).drop (0 + 5 + 4) = .ms q.it q.tt 1 0 s.tms.length none :: [.int .i64 (fsC c : Nat)] := by
  show wtA true s.tms q.it q.tt :: _ = _;rw [zih htne]
 have ez : 0 + ((i : Nat) : Int).toNat * 1 = i := by simp
 have l1 : (Nat.beq q.m q.m || Nat.beq q.m n10) = true := by rw [y2h]; rfl
 have l2 : (Nat.beq n10 q.m || Nat.beq n10 n10) = true := by rw [y2h n10, Bool.or_true]
 have s1 : (Nat.beq q.iv q.iv || Nat.beq q.iv q.it) = true := by rw [y2h]; rfl
 have s2 : (Nat.beq q.it q.iv || Nat.beq q.it q.it) = true := by rw [y2h q.it, Bool.or_true]
 have hdis : ∀ j, (Nat.beq j q.m || Nat.beq j n10) = true -> (Nat.beq j q.iv || Nat.beq j q.it) = true -> False := fun j h1 h2 => by
  rw [y0v, zfe, zfe] at h1 h2;rcases h1 with rfl | rfl <;> rcases h2 with h2 | h2
  ·exact v3 h2.symm
  ·exact t3 h2.symm
  ·exact hd.1 h2
  ·exact hd.2 h2
 refine znq env0_ok [] (fun _ hx => absurd hx y0c) (fun _ => false) (fun j => Nat.beq j q.m || Nat.beq j n10) (fun j => Nat.beq j q.iv || Nat.beq j q.it) hdis rfl rfl rfl ?_;unfold zgj;refine ggh0 ?_;refine zab rfl hM.hm hM.lm hm8 ?_ (ldOk rfl l1);refine ggh0 ?_;refine zab rfl hM.hm hM.lm hm9 ?_ (ldOk rfl l1);refine ggh0 ?_;refine zab rfl h10 hn rfl ?_ (ldOk rfl l2);repeat (first | refine zae rfl ?_)
 refine zab rfl h10 hn rfl ?_ (ldOk rfl l2);refine zi9 rfl rfl (y11 _) (by omega) ?_;rw [ez];refine zgc (id := q.iv) (sp := q.sv) (off := i) (cs := bC s.vals) rfl rfl rfl v1 (by rw [zd0]; exact hvi) rfl ?_ (sdOk rfl s1);refine zi9 rfl rfl (y11 _) (by omega) ?_;rw [ez];refine zgc (id := q.it) (sp := q.tt) (off := i) (cs := zC s.tms) rfl rfl rfl (by rw [za0, if_neg hne]; exact t1) (by rw [zsk]; exact hti) rfl ?_ (sdOk rfl s2);refine zay ?_;refine zau (zpe (md := some none) (zb9 ?_) go);unfold zgj;exact .cons rfl (.cons rfl (.cons rfl (.cons rfl (.cons rfl (.cons rfl (.cons rfl (.cons rfl (.cons rfl (.cons rfl (.cons rfl (.nil)))))))))))
set_option maxRecDepth 100000
def rl (c : Ctl) (ln : List Bool) (s : Sta) (i : Nat) : Bool × Int × Bool := rul (sgA c.sg i).kd (bA s.vals i) (zA s.tms i) (zas ln (sgA c.sg i).on) (decide ((sgA c.sg i).kd = 1) && zas ln (sgA c.sg i).off)
def rnd (c : Ctl) (ln : List Bool) (s : Sta) : Nat -> Sta
 | 0 => s
 | k + 1 => putR (rnd c ln s k) k (rl c ln (rnd c ln s k) k).1 (rl c ln (rnd c ln s k) k).2.1
def cnf (c : Ctl) (ln : List Bool) (s : Sta) : Nat -> List Int
 | 0 => []
 | k + 1 => cnf c ln s k ++ if (rl c ln (rnd c ln s k) k).2.2 = true then [((fsC c + k : Nat) : Int)] else []
def zfi (c : Ctl) (s : Sta) : Sta := rnd c (zfo (zbn c s)) (zbn c s) c.sg.length
def zko (c : Ctl) (s : Sta) : List Int := cnf c (zfo (zbn c s)) (zbn c s) c.sg.length
theorem zid (c : Ctl) (ln : List Bool) (s : Sta) : ∀ k, (rnd c ln s k).vals.length = s.vals.length /\ (rnd c ln s k).tms.length = s.tms.length /\ (rnd c ln s k).en = s.en /\ (rnd c ln s k).va = s.va /\ (rnd c ln s k).inp = s.inp
 | 0 => ⟨rfl, rfl, rfl, rfl, rfl⟩
 | k + 1 => by
  obtain ⟨a, b, d, e, f⟩ := zid c ln s k;refine ⟨?_, ?_, d, e, f⟩
  ·show (List.set _ _ _).length = _;rw [y24, a]
  ·show (List.set _ _ _).length = _;rw [y24, b]
theorem zpl (c : Ctl) (ln : List Bool) (s : Sta) : ∀ k, (cnf c ln s k).length <= k
 | 0 => y08 _
 | k + 1 => by
  have := zpl c ln s k;unfold cnf;rw [y0l];split
  ·show _ + 1 <= _; omega
  ·show _ + 0 <= _; omega
theorem zrf {c : Ctl} {s : Sta} (h : Sms s) : Sms (zbn c s) := ⟨h.e, h.v, h.i, by show (zmw c s).length <= 200; unfold zmw; rw [zeq]; exact h.b, h.t⟩
theorem zk7 (l : List Int) : ∀ e ∈ (l.map fun z => ([.int .i64 z] : List AV)), e.length = 1 := fun x hx => by obtain ⟨_, _, rfl⟩ := y0p.1 hx; rfl
theorem Mc.arB {c : Ctl} {q : Nms} {s : Sta} {H : HS} (h : Mc c q s H) : ArB s.vals (wvA s.vals q.iv q.sv) H.heap H.next := by
 by_cases e : s.vals = []
 ·exact .inl (by unfold wvA; rw [if_pos e, e])
 ·exact .inr ⟨e, q.iv, q.sv, zl2 e, (h.hv e).1, (h.hv e).2.1⟩
theorem Mc.arI {c : Ctl} {q : Nms} {s : Sta} {H : HS} (h : Mc c q s H) : ArI s.tms (wtA true s.tms q.it q.tt) H.heap H.next := by
 by_cases e : s.tms = []
 ·exact .inl (by unfold wtA; rw [if_neg (fun h => h.2 e), e])
 ·exact .inr ⟨e, q.it, q.tt, zih e, (h.ht e).1, (h.ht e).2.1⟩
theorem Gq.lower {sz b b' nx : Nat} {es : List (List AV)} {w : AV} {hp : List (Nat × Nat × AObj)} (h : Gq sz b es w hp nx) (hb : b' <= b) : Gq sz b' es w hp nx := by
 rcases h with h | ⟨id, sp, e, hl, h1, h2⟩
 ·exact .inl h
 ·exact .inr ⟨id, sp, e, hl, by omega, h2⟩
theorem Mc.keepB {c : Ctl} {q : Nms} {s : Sta} {H H' : HS} {b : Nat} (h : Mc c q s H) (h1 : q.m < b) (h2 : q.iv < b) (h3 : q.it < b) (hn : b <= H'.next) (hk : ∀ j, j < b -> Am.look j H'.heap = Am.look j H.heap) : Mc c q s H' :=
 ⟨(hk _ h1).trans h.hm, y09 h1 hn, fun e => ⟨(hk _ h2).trans (h.hv e).1, y09 h2 hn, (h.hv e).2.2⟩, fun e => ⟨(hk _ h3).trans (h.ht e).1, y09 h3 hn, (h.ht e).2.2⟩, h.ne⟩
def b29_0 : IC := sR [oM 28 (.bin .lss (.t 27) (.t 26))]
 (.seq (.cond (.t 28) (.skip)
 (.exit 0))
 (.seq (.block 1 (sR [oT 29 27,
  oM 30 (.idxs 10 (.t 25) (.t 27)),
  oL 31 10 30,
  oM 9 (.alloc [.str [], .int .i64 0, .int .i64 0, .int .i64 0, .nils, .int .i64 0, .int .i64 0, .nils, .int .i64 0, .bool false]),
  oT 8 29,
  ⟨none, .store 10 (.t 9) (.t 31), none⟩]
 (.seq (.region [oF 32 1 9,
  oN 33 32,
  oM 34 (.idxarr 3 1 (.t 6) (.t 33)),
  oN 35 34,
  oT 36 0,
  oM 37 (.nilchk (.t 36)),
  oF 38 5 37,
  oF 39 3 38,
  oN 40 39,
  oT 41 8,
  oM 42 (.idxs 1 (.t 40) (.t 41)),
  oN 43 42,
  oT 44 0,
  oM 45 (.nilchk (.t 44)),
  oF 46 5 45,
  oF 47 4 46,
  oN 48 47,
  oT 49 8,
  oM 50 (.idxs 1 (.t 48) (.t 49)),
  oN 51 50,
  oM 52 (.build [.bool false, .int .i64 0, .bool false] [(0, 1, (.t 43)), (1, 1, (.t 51)), (2, 1, (.c (.bool false)))]),
  oF 53 2 9,
  oL 54 3 53,
  oT 55 5,
  oM 56 (.call (.c (.fn 55 [] [])) [(.t 54), (.t 55)]),
  oF 57 1 9,
  oN 58 57,
  oM 59 (.bin .eql (.t 58) (cI 1)),
  oT 60 59,
  ⟨(some 61), .faddr 5 (.t 9), some (60, true)⟩,
  ⟨(some 62), .load (some 3) (.t 61), some (60, true)⟩,
  ⟨(some 63), .mov (.t 5), some (60, true)⟩,
  ⟨(some 64), .call (.c (.fn 55 [] [])) [(.t 62), (.t 63)], some (60, true)⟩,
  oM 65 (.pick (.t 60) (.t 64) (.c (.bool false))),
  oM 66 (.call (.t 35) [(.t 52), (.t 56), (.t 65)]),
  oM 10 (.alloc [.bool false, .int .i64 0, .bool false]),
  ⟨none, .store 3 (.t 10) (.t 66), none⟩] (some [[], [0], [1], [2], [], [4], [5], [6], [7], [], [8, 9], [10], [], [12], [13], [14], [15], [], [16, 17], [18], [11, 19], [], [21], [], [22, 23], [], [25], [26], [27, 24], [28], [29, 28], [28], [30, 31, 28, 28], [28, 32], [3, 20, 24, 33, 32], [], [35, 34, 34, 0, 1, 2, 3, 4, 5, 6, 7, 8, 9, 10, 11, 12, 13, 14, 15, 16, 17, 18, 19, 20, 21, 22, 23, 24, 25, 26, 27, 28, 29, 30, 31, 32, 33, 34, 35]]))
 (.seq (.region [oT 67 0,
  oM 68 (.nilchk (.t 67)),
  oF 69 5 68,
  oF 70 3 69,
  oN 71 70,
  oT 72 8,
  oT 73 0,
  oM 74 (.nilchk (.t 73)),
  oF 75 5 74,
  oF 76 4 75,
  oN 77 76,
  oT 78 8,
  oF 79 0 10,
  oN 80 79,
  oF 81 1 10,
  oN 82 81,
  oM 83 (.idxs 1 (.t 71) (.t 72)),
  ⟨none, .store 1 (.t 83) (.t 80), none⟩,
  oM 84 (.idxs 1 (.t 77) (.t 78)),
  ⟨none, .store 1 (.t 84) (.t 82), none⟩] (some [[], [0], [1], [2], [3], [], [], [6], [7], [8], [9], [], [], [12], [], [14], [4, 5, 0, 1, 2, 3, 4, 5, 10, 12, 13], [16, 13, 0, 1, 2, 3, 4, 5, 10, 12, 13], [10, 11, 0, 1, 2, 3, 4, 5, 6, 7, 8, 9, 10, 11, 12, 13, 14, 15, 16, 17], [18, 15, 17, 0, 1, 2, 3, 4, 5, 6, 7, 8, 9, 10, 11, 12, 13, 14, 15, 16, 17]]))
 (sR [oF 85 2 10,
  oN 86 85]
 (.cond (.t 86) (.region [oT 87 7,
  oT 88 0,
  oM 89 (.nilchk (.t 88)),
  oF 90 10 89,
  oN 91 90,
  oT 92 8,
  oM 93 (.bin .add (.t 91) (.t 92)),
  oM 94 (.bslice 1 1 [.int .i64 0] [(0, 1, (.t 93))]),
  oM 95 (.append 1 8 [.int .i64 0] (.t 87) (.t 94)),
  oT 7 95] none)
 (.skip)))))))
 (.region [oM 96 (.bin .add (.t 27) (cI 1)),
  oT 27 96] none)))
-- (*pneumatic/settle.machine).round
def ic29 : IC := sR [oM 2 (.mov (.c (.bool false))),
  oM 3 (.mov (.c (.nils)))]
 (sR [oT 11 0,
  oM 12 (.nilchk (.t 11)),
  oF 13 5 12,
  oL 14 5 13,
  oM 15 (.call (.c (.fn 39 [] [])) [(.t 14)]),
  oM 4 (.alloc [.nils, .nils, .nils, .nils, .nils]),
  ⟨none, .store 5 (.t 4) (.t 15), none⟩]
 (sR [oT 16 0,
  oM 17 (.call (.c (.fn 52 [] [])) [(.t 16)])]
 (sR [oT 18 0,
  oM 19 (.call (.c (.fn 53 [] [])) [(.t 18)]),
  oM 20 (.call (.c (.fn 54 [] [])) []),
  oM 6 (.alloc [.nilf, .nilf, .nilf]),
  oT 5 19,
  ⟨none, .store 3 (.t 6) (.t 20), none⟩]
 (sR [oM 7 (.mov (.c (.nils)))]
 (.seq (sR [oT 21 0,
  oM 22 (.nilchk (.t 21)),
  oF 23 0 22,
  oF 24 2 23,
  oN 25 24,
  oM 26 (.len false (.t 25)),
  oM 27 (.mov (cI 0))]
 (.block 0 (.loop b29_0)))
 (.seq (.region [oL 97 5 4,
  oT 98 0,
  oM 99 (.nilchk (.t 98)),
  oF 100 5 99,
  oL 101 5 100,
  oM 102 (.call (.c (.fn 56 [] [])) [(.t 97), (.t 101)]),
  oM 103 (.un .not (.t 102)),
  oT 104 7,
  oT 2 103,
  oT 3 104] (some [[], [], [1], [2], [3], [0, 4], [5], [], [6, 5, 0, 1, 2, 3, 4, 5, 6], [7, 8, 0, 1, 2, 3, 4, 5, 6, 7, 8]]))
 (.ret)))))))
theorem fn29 : env0.fn 29 = some ⟨105, ic29, [.t 2, .t 3]⟩ := by kernel_rfl
set_option maxHeartbeats 8000000 in
set_option maxRecDepth 100000 in
theorem round29 {w0 : World} {N0 : Nat} {c : Ctl} {s : Sta} {q : Nms} (h : Ct c) (hs : Ss c s) (H : HS) (hM : Mc c q s H) (hiv : q.iv < H.next) (hit : q.it < H.next) :
  FT Tryz.prog w0 N0 29 [.mptr q.m q.sm 0] H (fun v H' => ∃ w, v = .tup [.bool (!steB s (zfi c s)), w] /\ Mc c q (zfi c s) H' /\ Kp (fun j => j = q.iv \/ j = q.it) H H' /\ Gq 1 H.next ((zko c s).map fun z => [.int .i64 z]) w H'.heap H'.next) := by
 have hg := zel c.sg;obtain ⟨k1, k2, k3, k4, k5⟩ := hs.sh;have a1 := h.a1;have a6 := h.a6;have s16 := h.s16;have i16 := h.i16;have hfs100 : fsC c <= 100 := by unfold fsC; omega
 have p53 := zvx (c := c) (zrf (c := c) hs.toSms) (by show 1 <= s.en.length; omega)
 have hsg : (zbn c s).vals.length = s.vals.length := by show (zmw c s).length = _; unfold zmw; rw [zeq]
 have hal : (zfo (zbn c s)).length = lnC c := by
  show (zfh s.en s.inp ++ zmw c s).length = _;rw [y0l, zgt];have : (zmw c s).length = s.vals.length := hsg;unfold lnC fsC;omega
 have hrS : zfi c s = rnd c (zfo (zbn c s)) (zbn c s) c.sg.length := rfl;have hrC : zko c s = cnf c (zfo (zbn c s)) (zbn c s) c.sg.length := rfl;have p56 := same56 s (zfi c s) hs.toSms.shs;obtain ⟨hp0, nx0, ck0⟩ := H;refine zbl env0_ok fn29 [(0, .mptr q.m q.sm 0)] (y04 rfl) rfl ?_;unfold ic29;refine zk5 ?_;refine zbp rfl hM.hm hM.lm rfl rfl ?_;refine zhh _ rfl rfl (zgo (zo9 (wv := wvA s.vals q.iv q.sv) (wt := wtA true s.tms q.it q.tt) hs.toSms.shs ⟨hp0, nx0, ck0⟩ (hM.arB) (hM.arI))) (fun _ _ _ _ hm => absurd hm y0c) ?_;rintro v ⟨hp1, nx1, ck1⟩ ⟨n1, s1, n2, s2, rfl, hc⟩;have hM1 := hM.keep hc.kp.next (fun j hj => hc.kp.look j (fun h => h) hj);repeat (first | refine zce ?_)
 refine zaj rfl rfl rfl rfl za3 rfl (by show ([vsI s.en, vsB s.va, vsB s.inp, wvA s.vals n1 s1, wtA true s.tms n2 s2] : List AV).all AV.isCell = true; simp only [y1s, y2l, zii, zig]; rfl) ?_
 rw [zc7];refine zk4 ?_;have hM2 := hM1.new (ck1, .cells [vsI s.en, vsB s.va, vsB s.inp, wvA s.vals n1 s1, wtA true s.tms n2 s2]) (ck1 + 1);refine zhh _ rfl rfl (zgo (gates52 h hs ⟨_, _, _⟩ hM2)) (fun _ _ _ _ hm => absurd hm y0c) ?_;rintro v ⟨hp2, nx2, ck2⟩ ⟨hM3, hk3⟩;refine zk4 ?_;refine o_own rfl (congrArg (fun x => [x]) (zxe hM3)) p53 (zft _) ?_;refine zal rfl rfl rules54 noC ?_;refine zk5 ?_;refine zaj rfl rfl rfl rfl za3 rfl rfl ?_;rw [zc7];have hM4 := (hM3.new (ck2, .cells (bC (zfo (zbn c s)))) (ck2 + 1)).new (ck2 + 1, .cells rul3) (ck2 + 1 + 1);refine zk5 ?_;refine zab rfl hM4.hm hM4.lm rfl ?_;refine zi2 ?_;have hM4 : Mc c q (zbn c s) ⟨(nx2 + 1, ck2 + 1, AObj.cells rul3) :: (nx2, ck2, .cells (bC (zfo (zbn c s)))) :: hp2, nx2 + 1 + 1, ck2 + 1 + 1⟩ := hM4;have hq1 : q.m < nx0 := hM.lm;have hqv : q.iv < nx0 := hiv;have hqt : q.it < nx0 := hit;have hn1 : nx0 <= nx1 := hc.kp.next;have hn2 : nx1 + 1 <= nx2 := hk3.next;have hlL : Am.look nx2 ((nx2 + 1, ck2 + 1, AObj.cells rul3) :: (nx2, ck2, .cells (bC (zfo (zbn c s)))) :: hp2) = some (ck2, .cells (bC (zfo (zbn c s)))) := (za5 (y07 _)).trans za3;have hlR : Am.look (nx2 + 1) ((nx2 + 1, ck2 + 1, AObj.cells rul3) :: (nx2, ck2, .cells (bC (zfo (zbn c s)))) :: hp2) = some (ck2 + 1, .cells rul3) := za3;have hkv : ∀ j, j < nx1 + 1 -> j ≠ q.iv -> Am.look j ((nx2 + 1, ck2 + 1, AObj.cells rul3) :: (nx2, ck2, .cells (bC (zfo (zbn c s)))) :: hp2) = Am.look j ((nx1, ck1, AObj.cells [vsI s.en, vsB s.va, vsB s.inp, wvA s.vals n1 s1, wtA true s.tms n2 s2]) :: hp1) := fun j hj hne =>
  (za5 (by omega)).trans ((za5 (by omega)).trans (hk3.look j hne hj))
 have hlB : Am.look nx1 ((nx2 + 1, ck2 + 1, AObj.cells rul3) :: (nx2, ck2, .cells (bC (zfo (zbn c s)))) :: hp2) = some (ck1, .cells [vsI s.en, vsB s.va, vsB s.inp, wvA s.vals n1 s1, wtA true s.tms n2 s2]) := (hkv nx1 (y07 _) (by omega)).trans za3;have hlV : s.vals ≠ [] -> Am.look n1 ((nx2 + 1, ck2 + 1, AObj.cells rul3) :: (nx2, ck2, .cells (bC (zfo (zbn c s)))) :: hp2) = some (s1, .cells (bC s.vals)) /\ nx0 <= n1 /\ n1 < nx1 := fun e => by
  obtain ⟨b1, b2, b3⟩ := hc.hv e;have b2 : nx0 <= n1 := b2;have b3 : n1 < nx1 := b3;exact ⟨(hkv n1 (by omega) (by omega)).trans ((za5 (by omega)).trans b1), b2, b3⟩
 have hlT : s.tms ≠ [] -> Am.look n2 ((nx2 + 1, ck2 + 1, AObj.cells rul3) :: (nx2, ck2, .cells (bC (zfo (zbn c s)))) :: hp2) = some (s2, .cells (zC s.tms)) /\ nx0 <= n2 /\ n2 < nx1 := fun e => by
  obtain ⟨b1, b2, b3⟩ := hc.ht e;have b2 : nx0 <= n2 := b2;have b3 : n2 < nx1 := b3;exact ⟨(hkv n2 (by omega) (by omega)).trans ((za5 (by omega)).trans b1), b2, b3⟩
 have hk0 : Kp (fun j => j = q.iv \/ j = q.it) ⟨hp0, nx0, ck0⟩ ⟨(nx2 + 1, ck2 + 1, AObj.cells rul3) :: (nx2, ck2, .cells (bC (zfo (zbn c s)))) :: hp2, nx2 + 1 + 1, ck2 + 1 + 1⟩ := by
  refine ⟨by show nx0 <= nx2 + 1 + 1; omega, fun j hj hlt => ?_⟩
  have hlt : j < nx0 := hlt;exact (hkv j (by omega) (fun e => hj (.inl e))).trans ((za5 (by omega)).trans (hc.kp.look j (fun h => h) hlt))
 have hrl := zid c (zfo (zbn c s)) (zbn c s);have hcl := zpl c (zfo (zbn c s)) (zbn c s);have hg1 : (zbn c s).vals.length = c.sg.length := hsg.trans k4;have hg2 : (zbn c s).tms.length = c.sg.length := k5;have hgx : (zbn c s).en = s.en /\ (zbn c s).va = s.va /\ (zbn c s).inp = s.inp := ⟨rfl, rfl, rfl⟩
 rw [hal];rw [hrC, hrS];rw [hrS] at p56;generalize zfo (zbn c s) = ln at *;generalize zbn c s = g at *;show Zm _ _ _ _ _ (st 105 _ ((nx2 + 1, ck2 + 1, AObj.cells rul3) :: (nx2, ck2, .cells (bC ln)) :: hp2) (nx2 + 1 + 1) (ck2 + 1 + 1)) _ _;generalize ((nx2 + 1, ck2 + 1, AObj.cells rul3) :: (nx2, ck2, .cells (bC ln)) :: hp2) = hpL at *;generalize hnL : nx2 + 1 + 1 = nxL at *;generalize ck2 + 1 + 1 = ckL at *;refine zav (fun mm S => ∃ (i : Nat) (hp : List (Nat × Nat × AObj)) (nx ck : Nat) (w : AV), mm = c.sg.length - i /\ i <= c.sg.length /\ Mc c q (rnd c ln g i) ⟨hp, nx, ck⟩ /\ Gq 1 nxL ((cnf c ln g i).map fun z => [.int .i64 z]) w hp nx /\ Kp (fun j => j = q.iv \/ j = q.it) ⟨hpL, nxL, ckL⟩ ⟨hp, nx, ck⟩ /\ S = st 105 [(0, .mptr q.m q.sm 0), (4, .mptr nx1 ck1 0), (5, .ms nx2 ck2 1 0 (lnC c) none), (6, .mptr (nx2 + 1) (ck2 + 1) 0), (7, w), (25, vsG c.sg), (26, .int .i64 (c.sg.length : Nat)), (27, .int .i64 (i : Nat))] hp nx ck) c.sg.length
  (zb9 (.cons rfl (.cons rfl (.cons rfl (.cons rfl (.cons rfl (.cons rfl (.cons (by rw [<- hg]; rfl) (.cons rfl .nil))))))))) ⟨0, _, _, _, _, rfl, y0r _, hM4, .inl ⟨rfl, rfl⟩, Kp.refl _ _, rfl⟩ ?_
 ·rintro mm S ⟨i, hp, nx, ck, w, rfl, hi, hMi, hGi, hKi, rfl⟩;unfold b29_0 vsG;refine zk4 ?_;refine za4 rfl rfl rfl (fun h3 => ?_) fun h3 => ?_
  ·have hlt : i < c.sg.length := y1i.1 (of_decide_eq_true h3);have hge := zdi hlt;have hnx : nxL <= nx := hKi.next;have hcf : cnf c ln g (i + 1) = cnf c ln g i ++ if (rl c ln (rnd c ln g i) i).2.2 = true then [((fsC c + i : Nat) : Int)] else [] := rfl
   have hrn : rnd c ln g (i + 1) = putR (rnd c ln g i) i (rl c ln (rnd c ln g i) i).1 (rl c ln (rnd c ln g i) i).2.1 := rfl;have hcl1 := hcl i;have w1 := za7 i (by omega);have w2 : IntKind.wrap .i64 (((fsC c : Nat) : Int) + (i : Nat)) = ((fsC c + i : Nat) : Int) := by rw [zbb _ (by omega) (by omega)]; omega
   have hkd := h.kd i hlt;have hon := zhf (h.on i hlt);have hof := fun e => zhf (h.off i hlt e);obtain ⟨hr1, hr2, _⟩ := hrl i;have hM5 := hMi.new (ck, .cells (c10 (sgA c.sg i))) (ck + 1);have hkn : ∀ j, j < nxL -> (j ≠ q.iv /\ j ≠ q.it) -> Am.look j ((nx, ck, AObj.cells (c10 (sgA c.sg i))) :: hp) = Am.look j hpL := fun j hj hne => (za5 (by omega)).trans (hKi.look j (fun e => e.elim hne.1 hne.2) hj);refine zfk ?_;refine zaj rfl rfl rfl rfl za3 rfl rfl ?_;rw [zc7];refine zk4 ?_;refine reg29 (q := q) (c := c) (x := sgA c.sg i) (v := ln) (i := i) (nl := nx2) (sl := ck2) (nr := nx2 + 1) (sr := ck2 + 1) (ng := nx) (sg := ck) (bf := .mptr nx1 ck1 0) (w := w) hM5 (by omega) (by omega) hkd hal (by rw [hal]; exact hon) (fun e => by rw [hal]; exact hof e) ((hkn nx2 (by omega) ⟨by omega, by omega⟩).trans hlL) (by omega) ((hkn (nx2 + 1) (by omega) ⟨by omega, by omega⟩).trans hlR) (by omega) za3 (y07 _) (fun t v ht => KeepA.get (by unfold zgj; exact .cons rfl (.cons rfl (.cons rfl (.cons rfl (.cons rfl (.cons rfl (.cons rfl (.cons rfl (.cons rfl (.cons rfl .nil)))))))))) (t, v) ht) ?_;intro hp3 nx3 ck3 n10 s10 e1 e2 e3 e4;have e4 : Am.look n10 hp3 = some (s10, .cells (cCh (rl c ln (rnd c ln g i) i).1 (rl c ln (rnd c ln g i) i).2.1 (rl c ln (rnd c ln g i) i).2.2)) := e4;have hM6 := hM5.keep (H' := ⟨hp3, nx3, ck3⟩) (by show nx + 1 <= nx3; omega) e3
   have hG6 : Gq 1 nxL ((cnf c ln g i).map fun z => [.int .i64 z]) w hp3 nx3 := hGi.of (by omega) fun j h1 h2 => (e3 j (by omega)).trans (za5 h2);refine zb5 (put29 hM6 (by omega) (by omega) e4 e2 ⟨by omega, by omega⟩ ?_);have hM7 := hM6.putR (fun e => by rw [e] at hr1; simp at hr1; omega) (fun e => by rw [e] at hr2; simp at hr2; omega) i (rl c ln (rnd c ln g i) i).1 (rl c ln (rnd c ln g i) i).2.1;rw [<- hrn] at hM7;have hG7 : ∀ a b, Gq 1 nxL ((cnf c ln g i).map fun z => [.int .i64 z]) w (zap q.it a (zap q.iv b hp3)) nx3 := fun a b => hG6.of (y08 _) fun j h1 h2 => by rw [za0, if_neg (by omega), za0, if_neg (by omega)]
   have hK7 : ∀ a b ck', Kp (fun j => j = q.iv \/ j = q.it) ⟨hpL, nxL, ckL⟩ ⟨zap q.it a (zap q.iv b hp3), nx3, ck'⟩ := fun a b ck' => ⟨by show nxL <= nx3; omega, fun j hj hlt => by
    have hlt : j < nxL := hlt;rw [za0, if_neg (fun e => hj (.inr e.symm)), za0, if_neg (fun e => hj (.inl e.symm)), e3 j (by omega)];exact hkn j hlt ⟨fun e => hj (.inl e), fun e => hj (.inr e)⟩⟩
   have h10 : ∀ a b, Am.look n10 (zap q.it a (zap q.iv b hp3)) = some (s10, .cells (cCh (rl c ln (rnd c ln g i) i).1 (rl c ln (rnd c ln g i) i).2.1 (rl c ln (rnd c ln g i) i).2.2)) := fun a b => by rw [za0, if_neg (by omega), za0, if_neg (by omega)]; exact e4
   have hG8 := hG7 (q.tt, AObj.cells ((zC (rnd c ln g i).tms).set i (.int .i64 (rl c ln (rnd c ln g i) i).2.1))) (q.sv, AObj.cells ((bC (rnd c ln g i).vals).set i (.bool (rl c ln (rnd c ln g i) i).1)));have hK8 := hK7 (q.tt, AObj.cells ((zC (rnd c ln g i).tms).set i (.int .i64 (rl c ln (rnd c ln g i) i).2.1))) (q.sv, AObj.cells ((bC (rnd c ln g i).vals).set i (.bool (rl c ln (rnd c ln g i) i).1)));have h10 := h10 (q.tt, AObj.cells ((zC (rnd c ln g i).tms).set i (.int .i64 (rl c ln (rnd c ln g i) i).2.1))) (q.sv, AObj.cells ((bC (rnd c ln g i).vals).set i (.bool (rl c ln (rnd c ln g i) i).1)));generalize zap q.it (q.tt, AObj.cells ((zC (rnd c ln g i).tms).set i (.int .i64 (rl c ln (rnd c ln g i) i).2.1))) (zap q.iv (q.sv, AObj.cells ((bC (rnd c ln g i).vals).set i (.bool (rl c ln (rnd c ln g i) i).1))) hp3) = hp4 at *;unfold zgj;refine zk4 ?_;refine zab rfl h10 e2 rfl ?_;refine zk4 ?_;generalize rl c ln (rnd c ln g i) i = R at *;obtain ⟨r1, r2, r3⟩ := R;cases r3 with
   | true =>
    have hcf : cnf c ln g (i + 1) = cnf c ln g i ++ [((fsC c + i : Nat) : Int)] := hcf;refine zk5 ?_;refine zab rfl hM7.hm hM7.lm rfl ?_;refine ze6 ?_;rw [w2];refine zt5 (sz := 1) (b := nxL) [[.int .i64 ((fsC c + i : Nat) : Int)]] (hG8.fresh ck3 _) (zk7 _) rfl rfl (zf5 (xs := [[.int .i64 ((fsC c + i : Nat) : Int)]]) (ys := []) za3 rfl fun x hx => by obtain rfl := y0o.1 hx; rfl) rfl (by decide) (by omega) (by rw [y06]; show _ + 1 <= _; omega) ?_
    intro w' hp5 nx5 ck5 hG9 hn5 hk5;have hk5 : ∀ j, j < nxL -> Am.look j hp5 = Am.look j hp4 := fun j hj => (hk5 j hj).trans (za5 (by omega));refine zi2 ?_;rw [w1];have hG9 : Gq 1 nxL ((cnf c ln g (i + 1)).map fun z => [.int .i64 z]) w' hp5 nx5 := by rw [hcf, y16]; exact hG9
    have hK8 := hK8 ck3;exact zad (show c.sg.length - (i + 1) < c.sg.length - i by omega) skp ⟨i + 1, hp5, nx5, ck5, w', rfl, hlt, hM7.keepB (b := nxL) (by omega) (by omega) (by omega) (by show nxL <= nx5; omega) hk5, hG9, ⟨by show nxL <= nx5; omega, fun j hj hlt => (hk5 j hlt).trans (hK8.look j hj hlt)⟩, rfl⟩
   | false =>
    have hcf : cnf c ln g (i + 1) = cnf c ln g i := hcf.trans (y0s _);refine zi2 ?_;rw [w1];exact zad (show c.sg.length - (i + 1) < c.sg.length - i by omega) skp ⟨i + 1, _, _, _, _, rfl, hlt, hM7, by rw [hcf]; exact hG8, hK8 _, rfl⟩
  ·have hie : i = c.sg.length := by
    have h4 : ¬ ((i : Nat) : Int) < (c.sg.length : Nat) := of_decide_eq_false h3;omega
   subst hie;have hnx : nxL <= nx := hKi.next;have hkn : ∀ j, j < nxL -> (j ≠ q.iv /\ j ≠ q.it) -> Am.look j hp = Am.look j hpL := fun j hj hne => hKi.look j (fun e => e.elim hne.1 hne.2) hj;refine zfk ?_;refine zbq ?_;refine zfk ?_;refine zc2 env0_ok _ (hL1 p56) (fun g => Nat.beq g 56) rfl rfl rfl ?_;refine zbp rfl ((hkn nx1 (by omega) ⟨by omega, by omega⟩).trans hlB) (by omega) rfl rfl ?_;refine zk5 ?_;refine zbp rfl hMi.hm hMi.lm rfl rfl ?_;refine zal rfl ?_ zb6 (fun _ => rfl) ?_
   ·show [AS.view _ VD (.agg [vsI s.en, vsB s.va, vsB s.inp, wvA s.vals n1 s1, wtA true s.tms n2 s2]), AS.view _ VD (.agg [vsI (rnd c ln g c.sg.length).en, vsB (rnd c ln g c.sg.length).va, vsB (rnd c ln g c.sg.length).inp, wvA (rnd c ln g c.sg.length).vals q.iv q.sv, wtA true (rnd c ln g c.sg.length).tms q.it q.tt])] = _;rw [show VD = (VD - 2) + 2 from rfl, znm (s := s) (fun d => zno (fun e => (hkn n1 (by have := (hlV e).2.2; omega) ⟨by have := (hlV e).2.1; omega, by have := (hlV e).2.1; omega⟩).trans (hlV e).1) d) (fun d => znn (fun e => (hkn n2 (by have := (hlT e).2.2; omega) ⟨by have := (hlT e).2.1; omega, by have := (hlT e).2.1; omega⟩).trans (hlT e).1) d), znm (fun d => zno (fun e => (hMi.hv e).1) d) (fun d => znn (fun e => (hMi.ht e).1) d)]
   ·refine zk5 ?_;exact zaa ⟨.inr rfl, _, rfl, w, rfl, hMi, hk0.trans hKi, hGi.lower (by show nx0 <= nxL; omega)⟩
theorem zo1 (v : List Bool) {i j : Nat} (b : Bool) (h : i < v.length) : bA (v.set i b) j = if i = j then b else bA v j := by
 unfold bA;rw [y0j, y0j, List.getElem?_set];split
 ·rename_i e;subst e;rfl
 ·rfl
theorem zA_set (v : List Int) {i j : Nat} (b : Int) (h : i < v.length) : zA (v.set i b) j = if i = j then b else zA v j := by
 unfold zA;rw [y0j, y0j, List.getElem?_set];split
 ·rename_i e;subst e;rfl
 ·rfl
theorem zs5 (c : Ctl) (ln : List Bool) (s : Sta) : ∀ (k : Nat), k <= s.vals.length -> k <= s.tms.length -> ∀ j, bA (rnd c ln s k).vals j = (if j < k then (rl c ln s j).1 else bA s.vals j) /\ zA (rnd c ln s k).tms j = (if j < k then (rl c ln s j).2.1 else zA s.tms j)
 | 0, _, _, j => ⟨rfl, rfl⟩
 | k + 1, hv, ht, j => by
  have ih := zs5 c ln s k (by omega) (by omega);obtain ⟨l1, l2, _⟩ := zid c ln s k;have hk := ih k;rw [if_neg (y21 _), if_neg (y21 _)] at hk;have hr : rl c ln (rnd c ln s k) k = rl c ln s k := by
   unfold rl;rw [hk.1, hk.2]
  show bA (List.set _ _ _) j = _ /\ zA (List.set _ _ _) j = _;rw [zo1 _ _ (by omega), zA_set _ _ (by omega), hr];by_cases e : k = j
  ·subst e;rw [if_pos rfl, if_pos rfl, if_pos (y07 _), if_pos (y07 _)];exact ⟨rfl, rfl⟩
  ·rw [if_neg e, if_neg e, (ih j).1, (ih j).2];by_cases h : j < k
   ·rw [if_pos h, if_pos h, if_pos (by omega), if_pos (by omega)];exact ⟨rfl, rfl⟩
   ·rw [if_neg h, if_neg h, if_neg (by omega), if_neg (by omega)];exact ⟨rfl, rfl⟩
theorem zre (pre : List Bool) (sg : List Sig) (v : List Bool) (j : Nat) (h : (sgA sg j).kd ≠ 0) : ∀ k, k <= v.length -> bA (gat pre sg v k) j = bA v j
 | 0, _ => rfl
 | k + 1, hk => by
  have ih := zre pre sg v j h k (by omega);have hgs : gat pre sg v (k + 1) = if (sgA sg k).kd = 0 then (gat pre sg v k).set k (zas (pre ++ gat pre sg v k) (sgA sg k).on) else gat pre sg v k := rfl
  rw [hgs];split
  ·rename_i e;rw [zo1 _ _ (by rw [zeq]; omega), if_neg, ih];intro e2;subst e2;exact h e
  ·exact ih
theorem zpx {c : Ctl} {s : Sta} (hs : Ss c s) : Ss c (zbn c s) := by
 obtain ⟨k1, k2, k3, k4, k5⟩ := hs.sh;refine ⟨zrf hs.toSms, ⟨k1, k2, k3, ?_, k5⟩, hs.e4, hs.t3, fun j hj => ?_⟩
 ·show (gat _ _ _ _).length = _;rw [zeq, k4]
 ·have hj : j < s.tms.length := hj;have := hs.tk j hj;show tkB (sgA c.sg j) (bA (zmw c s) j) (zA s.tms j) = true;unfold tkB at this ⊢;by_cases e : (sgA c.sg j).kd = 2
  ·rw [if_pos e] at this ⊢;unfold zmw;rw [zre _ _ _ _ (by omega) _ (by omega)];exact this
  ·rw [if_neg e] at this ⊢;exact this
theorem rnd_ss {c : Ctl} {s : Sta} (ln : List Bool) (hs : Ss c s) : Ss c (rnd c ln s c.sg.length) := by
 obtain ⟨k1, k2, k3, k4, k5⟩ := hs.sh;obtain ⟨l1, l2, l3, l4, l5⟩ := zid c ln s c.sg.length;have hat := zs5 c ln s c.sg.length (by omega) (by omega);have hrl : ∀ j, j < c.sg.length -> (0 <= (rl c ln s j).2.1 /\ (rl c ln s j).2.1 < 3) /\ tkB (sgA c.sg j) (rl c ln s j).1 (rl c ln s j).2.1 = true := fun j hj => by
  have h1 := hs.t3 j (by omega);have h2 := hs.tk j (by omega);unfold rl rul;unfold tkB at h2 ⊢;generalize zA s.tms j = t at *;generalize bA s.vals j = b at *;generalize (sgA c.sg j).kd = kd at *;by_cases e1 : kd = 1
  ·subst e1;rw [if_pos rfl];exact ⟨h1, h2⟩
  ·rw [if_neg e1];by_cases e2 : kd = 2
   ·subst e2;rw [if_pos rfl] at h2 ⊢;split
    ·dsimp only;by_cases e3 : t = 0
     ·subst e3;rw [if_pos rfl];refine ⟨⟨by decide, by decide⟩, ?_⟩;have : b = false := by cases b with | false => rfl | true => exact absurd h2 (by decide)
      subst this;rfl
     ·rw [if_neg e3];exact ⟨h1, h2⟩
    ·exact ⟨⟨by show (0 : Int) <= 0; decide, by show (0 : Int) < 3; decide⟩, rfl⟩
   ·rw [if_neg e2];exact ⟨h1, h2⟩
 refine ⟨⟨by rw [l3]; exact hs.e, by rw [l4]; exact hs.v, by rw [l5]; exact hs.i, by rw [l1]; exact hs.b, by rw [l2]; exact hs.t⟩, ⟨by rw [l3]; exact k1, by rw [l4]; exact k2, by rw [l5]; exact k3, by rw [l1]; exact k4, by rw [l2]; exact k5⟩, by rw [l3]; exact hs.e4, fun j hj => ?_, fun j hj => ?_⟩
 ·rw [l2] at hj;rw [(hat j).2, if_pos (by omega)];exact (hrl j (by omega)).1
 ·rw [l2] at hj;rw [(hat j).1, (hat j).2, if_pos (by omega), if_pos (by omega)];exact (hrl j (by omega)).2
theorem round_ss {c : Ctl} {s : Sta} (hs : Ss c s) : Ss c (zfi c s) := rnd_ss _ (zpx hs)
def itS (c : Ctl) (s : Sta) : Nat -> Sta
 | 0 => s
 | n + 1 => zfi c (itS c s n)
def itC (c : Ctl) (s : Sta) : Nat -> List Int
 | 0 => []
 | n + 1 => itC c s n ++ zko c (itS c s n)
theorem zl7 {c : Ctl} {s : Sta} (hs : Ss c s) : ∀ n, Ss c (itS c s n)
 | 0 => hs
 | n + 1 => round_ss (zl7 hs n)
theorem zma (c : Ctl) (s : Sta) : (zko c s).length <= c.sg.length := zpl ..
theorem zpz (c : Ctl) (s : Sta) : ∀ n, (itC c s n).length <= n * c.sg.length
 | 0 => by show 0 <= _; omega
 | n + 1 => by
  have h1 := zpz c s n;have h2 := zma c (itS c s n);show (itC c s n ++ zko c (itS c s n)).length <= _;rw [y0l, y23];omega
set_option maxRecDepth 100000
def iR : IC -> IC
 | .seq _ b => b
 | .cond _ _ e => e
 | .block _ b => b
 | .loop b => b
 | x => x
def iL : IC -> IC
 | .seq a _ => a
 | .cond _ a _ => a
 | x => x
noncomputable def icOf (f : FuncId) : IC := match env0.fn f with
 | some i => i.ic
 | none => .skip
noncomputable def rs41 : IC := iR (iR (icOf 41))
noncomputable def ic41 : IC := sR [oM 2 (.mov (.c (.nils)))]
 (.seq (sR [oT 6 0,
  oM 7 (.len false (.t 6)),
  oM 8 (.bin .lss (.t 7) (cI 2))]
 (.cond (.t 8) (sR [oT 9 0,
  oT 2 9]
 (.ret))
 (.skip))) rs41)
theorem fn41 : env0.fn 41 = some ⟨61, ic41, [.t 2]⟩ := by kernel_rfl
theorem zo8 : PF Tryz.prog 41 [.vs []] (.vs []) := by
 refine za6 env0_ok fn41 [(0, .vs [])] (y04 rfl) rfl fun w0 N0 => ?_;unfold ic41;refine zbh ?_;exact uE
noncomputable def rs91 : IC := iR (iR (iR (iR (icOf 91))))
noncomputable def bd91 : IC := .seq (sR [oT 10 6,
  oT 11 2,
  oM 12 (.bin .lss (.t 10) (.t 11))]
 (.cond (.t 12) (.skip)
 (.exit 0))) rs91
noncomputable def ic91 : IC := sR [oT 8 1,
  oM 9 (.bin .add (.t 8) (cI 1)),
  oT 6 9] (.block 0 (.loop bd91))
theorem fn91 : env0.fn 91 = some ⟨49, ic91, []⟩ := by kernel_rfl
theorem insert91 : PF Tryz.prog 91 [.vs [], .int .i64 0, .int .i64 0] (.tup []) := by
 refine za6 env0_ok fn91 [(0, .vs []), (1, .int .i64 0), (2, .int .i64 0)] (y04 rfl) rfl fun w0 N0 => ?_;unfold ic91;refine zbh ?_;refine zav (fun mm S => mm = 0 /\ S = st 49 [(2, .int .i64 0), (6, .int .i64 1)] [] 0 0) 0 skp ⟨rfl, rfl⟩ ?_;rintro mm S ⟨rfl, rfl⟩;unfold bd91;refine zbh ?_;refine zbq ?_;refine zbh ?_;exact zaa ⟨.inl rfl, _, rfl, rfl⟩
noncomputable def zxa (k : Nat) : IC := iL (iR (iL (match k with
 | 0 => iR (icOf 101)
 | 1 => iR (iR (icOf 101))
 | _ => iR (iR (iR (icOf 101))))))
noncomputable def ic101 : IC := sR [oM 2 (.mov (cI 0))]
 (.seq (sR [oT 3 0,
  oM 4 (.bin .geq (.t 3) (.c (.int .u64 4294967296)))]
 (.cond (.t 4) (zxa 0) (.skip)))
 (.seq (sR [oT 7 0,
  oM 8 (.bin .geq (.t 7) (.c (.int .u64 65536)))]
 (.cond (.t 8) (zxa 1) (.skip)))
 (.seq (sR [oT 13 0,
  oM 14 (.bin .geq (.t 13) (.c (.int .u64 256)))]
 (.cond (.t 14) (zxa 2) (.skip)))
 (sR [oT 19 2,
  oT 20 0,
  oM 21 (.conv .u8 (.t 20)),
  oM 22 (.idxstr (.c (.str (0 :: 1 :: (List.replicate 2 2 ++ List.replicate 4 3 ++ List.replicate 8 4 ++ List.replicate 16 5 ++ List.replicate 32 6 ++ List.replicate 64 7 ++ List.replicate 128 8)))) (.t 21)),
  oM 23 (.conv .i64 (.t 22)),
  oM 24 (.bin .add (.t 19) (.t 23)),
  oT 2 24]
 (.ret)))))
theorem fn101 : env0.fn 101 = some ⟨25, ic101, [.t 2]⟩ := by kernel_rfl
theorem len101 : PF Tryz.prog 101 [.int .u64 0] (.int .i64 0) := by
 refine za6 env0_ok fn101 [(0, .int .u64 0)] (y04 rfl) rfl fun w0 N0 => ?_;unfold ic101;repeat (first | refine zb5 ?_ | refine za8 rfl ?_ | refine zay ?_ | refine zau ?_ | refine zg3 ?_ | refine zbc ?_ | refine zbd ?_ | refine zgi rfl ?_ | refine zfj rfl ?_ | refine zgn ?_ | refine zby ?_ | refine zem ?_ | refine zcl ?_ | refine zis rfl ?_ | refine zaw ?_ | refine zct ?_ | refine zgy rfl ?_ | refine znu rfl rfl ?_ | refine o_gt rfl ?_ | refine zan rfl ?_ | refine zb0 rfl rfl ?_ | refine zbf rfl rfl rfl rfl ?_ | refine zaj rfl rfl rfl rfl rfl rfl rfl ?_ | refine zae rfl ?_ | refine zbo rfl rfl rfl ?_ | refine zfy rfl rfl rfl ?_ | refine zou rfl rfl rfl rfl ?_ | refine zce ?_ | refine zbz rfl rfl ?_ | refine zb8 rfl rfl ?_ | refine zto rfl rfl ?_ | refine zdb rfl rfl ?_ | refine zi8 rfl rfl ?_ | refine zcw rfl rfl ?_ | refine zd6 rfl rfl ?_ | refine zov rfl rfl rfl ?_ | refine zwc rfl rfl ?_ | refine zrq rfl rfl rfl rfl ?_ | refine zot rfl rfl rfl rfl ?_ | refine zru rfl rfl rfl rfl ?_ | refine zrs rfl rfl ?_ | refine zrw rfl rfl ?_ | refine zhi rfl rfl ?_ | refine o_lenc ?_ | refine zgg env0_ok rfl rfl rfl ?_ | refine zb3 (op := .add) rfl rfl rfl ?_ | refine zb3 (op := .sub) rfl rfl rfl ?_ | refine zwb rfl rfl rfl ?_ | refine zwa rfl rfl rfl ?_ | refine zos rfl rfl rfl ?_ | refine zfg rfl rfl rfl ?_ | refine zcn rfl rfl (by omega) (by assumption) rfl ?_ | refine zfy rfl rfl (decide_eq_true ⟨by omega, by omega⟩) ?_ | refine zi9 rfl rfl (by omega) (by omega) ?_ | refine zrt rfl rfl rfl ?_ | refine zkh rfl ?_ | refine zio rfl ?_ | refine o_ixs rfl rfl (y11 _) (by assumption) ?_ | refine zb3 (op := .mul) rfl rfl rfl ?_ | refine zal rfl rfl (by assumption) noC ?_ | refine zal rfl rfl zb6 noC ?_ | refine zal rfl rfl (zd3 (by decide) zb6) noC ?_ | refine zal rfl rfl (zd3 (by decide) (zd3 (by decide) zb6)) noC ?_ | refine zdf (zlt (s := 0 :: _) rfl rfl (y2j 0) rfl) ?_)
 exact uE
noncomputable def th65 : IC := iL (iL (iR (icOf 65)))
noncomputable def ic65 : IC := sR [oM 2 (.mov (cI 0))]
 (.seq (.cond (.c (.bool false)) th65 (.skip))
 (sR [oT 6 0,
  oM 7 (.call (.c (.fn 101 [] [])) [(.t 6)]),
  oT 2 7]
 (.ret)))
theorem fn65 : env0.fn 65 = some ⟨8, ic65, [.t 2]⟩ := by kernel_rfl
theorem len65 : PF Tryz.prog 65 [.int .u64 0] (.int .i64 0) := by
 have p := len101;refine za6 env0_ok fn65 [(0, .int .u64 0)] (y04 rfl) rfl fun w0 N0 => ?_;unfold ic65;refine zbh ?_;exact uE
noncomputable def rs64 : IC := iR (iR (iR (iR (iR (iR (iR (icOf 64)))))))
noncomputable def bd64 : IC := .block 1 (sR [oT 19 2,
  oT 20 1,
  oM 21 (.bin .sub (.t 19) (.t 20)),
  oT 10 21]
 (.seq (sR [oT 22 10,
  oM 23 (.bin .leq (.t 22) (cI 12))]
 (.cond (.t 23) (sR [oT 24 0,
  oT 25 1,
  oT 26 2,
  oM 27 (.call (.c (.fn 91 [] [])) [(.t 24), (.t 25), (.t 26)])]
 (.ret))
 (.skip))) rs64))
noncomputable def ic64 : IC := sR [oM 8 (.mov (.c (.bool true)))]
 (sR [oM 9 (.mov (.c (.bool true)))]
 (.block 0 (.loop bd64)))
theorem fn64 : env0.fn 64 = some ⟨134, ic64, []⟩ := by kernel_rfl
theorem pdq64 : PF Tryz.prog 64 [.vs [], .int .i64 0, .int .i64 0, .int .i64 0] (.tup []) := by
 have p := insert91;refine za6 env0_ok fn64 [(0, .vs []), (1, .int .i64 0), (2, .int .i64 0), (3, .int .i64 0)] (y04 rfl) rfl fun w0 N0 => ?_;unfold ic64;refine zbh ?_;refine zav (fun mm S => mm = 0 /\ S = st 134 [(0, .vs []), (1, .int .i64 0), (2, .int .i64 0)] [] 0 0) 0 skp ⟨rfl, rfl⟩ ?_;rintro mm S ⟨rfl, rfl⟩;unfold bd64;refine zbh ?_;exact uE
-- slices.Sort[[]int,int]
def ic40 : IC := sR [oT 3 0,
  oM 4 (.len false (.t 3)),
  oT 2 4]
 (.region [oT 5 0,
  oT 6 2,
  oT 7 2,
  oM 8 (.conv .u64 (.t 7)),
  oM 9 (.call (.c (.fn 65 [] [])) [(.t 8)]),
  oM 10 (.call (.c (.fn 64 [] [])) [(.t 5), (cI 0), (.t 6), (.t 9)])] none)
theorem fn40 : env0.fn 40 = some ⟨11, ic40, []⟩ := by kernel_rfl
set_option maxRecDepth 100000 in
theorem ints40 : PF Tryz.prog 40 [.vs []] (.tup []) := by
 have p := pdq64;have p2 := len65;refine za6 env0_ok fn40 [(0, .vs [])] (y04 rfl) rfl fun w0 N0 => ?_;unfold ic40;refine zbh ?_;exact zaa ⟨.inl rfl, _, rfl, rfl⟩
end Go.Proofs.YtdolbghhcijonaaGreat
