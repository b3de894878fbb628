/-
  AN ABSTRACT MACHINE FOR PROOFS, PART 7. A general base for proofs: no program is named here.
-/
import Derived.Test.YtdolbghhcijonaaGreatNA6
import Derived.WalkKit
import Derived.ProofKit
import Derived.OpenShut
import Derived.Deep.DeepHandedRow
import Derived.Lib.LaidTab
import Derived.Lib.SmallJoins
import Derived.ChangeMaps5
namespace Go.Am
open Go Go.RowKit Go.ChangeShapes Go.WideShapes Go.ChangeAt Go.Deep
theorem Below.kept {w w' : World} (h : Below w.heap.size w w') (may : MemPlace -> Prop) : w.keptBut w' may := by
 refine ⟨h.os, h.output, fun i hi => ?_⟩;rw [h.block i hi];cases w.heap[i]? with
 | none => rfl
 | some o => cases o <;> simp
theorem zt8 {H : Type} {enc : TypeId × Value -> H} {P : Program} {f : Func} {s : ChangeSpec} {apart fresh handsOn again : Bool} {W W' : World} {args : Array Value} {v : Value} {ds gs : List (DataW H)} {before pa pv : List MemPlace}
  (hW : DataW.Whole enc P f.params.toList s.vars apart W args.toList ds gs before)
  (hres : ∀ (b : Nat) (sp : Nat -> Bool) (hd : Bool), DataW.TrodAll enc P W' b sp hd f.resultTypes.toList (v.resultList f.resultTypes.size) (s.fn H (ds ++ gs)).results [])
  (hargs : ∀ sp : Nat -> Bool, (∀ p ∈ before, sp p.block = true) -> DataW.TrodAll enc P W' 0 sp true f.params.toList args.toList (s.fn H (ds ++ gs)).args pa)
  (hvars : ∀ sp : Nat -> Bool, (∀ p ∈ before, sp p.block = true) -> DataW.TrodVars enc P W' sp s.vars (s.fn H (ds ++ gs)).vars pv)
  (hps : before = pa ++ pv) (hB : Below W.heap.size W W')
  (hok : ∀ (j : Nat) (t : TypeId) (r : Value), f.resultTypes[j]? = some t -> (v.resultList f.resultTypes.size)[j]? = some r -> Value.okWide P W' .any 0 t r) :
  s.post enc P f apart fresh handsOn again W args v W' := by
 have hold : ∀ p ∈ before, (fun b => decide (b < W.heap.size)) p.block = true := fun p hp => by simpa using hW.lt p hp
 have hlt := hW.lt;refine ⟨ds, gs, before, [], pa, pv, hW, hres _ _ _, hargs _ hold, hvars _ hold, World.keptBut_mono (fun p hp => ⟨hp, ?_⟩) (Below.kept hB (· ∈ before)), fun _ => ?_⟩
 ·rw [hps, y1n] at hp;exact Or.inr hp
 ·obtain ⟨_, _, _, _, _, hz, hn⟩ := hW;refine ⟨hok, _, _, ([] ++ pa) ++ pv, ⟨[] ++ pa, pv, trodAll_append (hargs _ (fun _ _ => rfl)) (hres _ _ _), hvars _ (fun _ _ => rfl), rfl, ?_, ?_⟩, ?_⟩
  ·intro b off hp;have hm : MemPlace.cell b off ∈ before := by rw [hps]; simpa using hp
   have hb : b < W.heap.size := hlt _ hm;have : W'.frozen? ⟨b, off, none⟩ = W.frozen? ⟨b, off, none⟩ := by
    simp only [World.frozen?, hB.block b hb]
   rw [this];exact hz b off hm
  ·intro ha;have := hn ha;rw [hps] at this;simpa using this
  ·intro p hp _;rw [hps];simpa using hp
theorem zsp {P : Program} {f : FuncId} {as : List AV} {us : Array Value} {W : World} (h : PF P f as (.bool true)) (hg : GOk (fun _ => True) W) (ha : CRel W (fun _ => True) none as us) :
  Calls P f us W fun e w' => e = .returned (.bool true) /\ Below W.heap.size W w' :=
 (h.2 (fun _ => True) W us hg ha).mono fun e w' ⟨u, h1, h2, h3⟩ => by
  cases h3;exact ⟨h1, h2⟩
theorem zuw {w : World} {ro : Nat -> Prop} {L : Option LI} : ∀ {as : List AV} {us : List Value}, us.length = as.length -> (∀ (i : Nat) (x : AV) (u : Value), as[i]? = some x -> us[i]? = some u -> VRel w ro L x u) -> CRel w ro L as us.toArray := by
 intro as us hl h;refine ⟨by simpa using hl, fun i x hx => ?_⟩;have hi : i < us.length := by rw [hl]; exact (y05.1 hx).1
 have : us.toArray.getD i undef = us[i] := by simp [y02, hi]
 rw [this];exact h i x _ hx (by simp [hi])
theorem zpq {w : World} {ro : Nat -> Prop} {L : Option LI} {a : AV} {u : Value} (h : VRel w ro L a u) : CRel w ro L [a] #[u] :=
 zuw (us := [u]) rfl fun i x y hx hy => by
  match i with
  | 0 => simp at hx hy; subst hx hy; exact h
  | i + 1 => simp at hx
section
variable {H : Type} {enc : TypeId × Value -> H} {P : Program} {w : World} {base : Nat} {spare : Nat -> Bool} {held : Bool}
end
open Go Go.RowKit
section
variable (P : Program) (w0 : World) (N0 : Nat)
structure WpCall (S : AS) (fv : AV) (vs : List AV) (K : AV -> AS -> Prop) : Prop where
 ok : ∃ Fk : AV -> HS -> Prop, CT P w0 N0 fv vs S.hs Fk /\ ∀ v H, Fk v H -> zco S.marks H.heap /\ K v (S.withH H)
structure WpT (rd : Option (Nat × Nat)) (ic : IC) (S : AS) (K : Exit -> AS -> Prop) : Prop where
 ok : T P w0 N0 rd ic S K
end
section
variable {P : Program} {w0 w : World} {N0 : Nat} {S S' : AS} {rd : Option (Nat × Nat)}
theorem Sub.of {S S' : AS} (h1 : S'.size = S.size) (h2 : S'.heap = S.heap) (h3 : S'.next = S.next) (h4 : S'.clk = S.clk) (h5 : S'.marks = S.marks) (hi : ∀ d v, zao d S'.tmps = some v -> zao d S.tmps = some v) : Sub w0 N0 S S' := by
 intro I a w h;obtain ⟨size, tmps, heap, nx, clk, marks⟩ := S;obtain ⟨size', tmps', heap', nx', clk', marks'⟩ := S';simp only at h1 h2 h3 h4 h5;subst h1 h2 h3 h4 h5;exact ⟨I, ⟨h.clk, ⟨h.tmps.1, fun d v hv => h.tmps.2 d v (hi d v hv)⟩, h.hrel, h.marks⟩, Evo.refl I w⟩
theorem zgx {fid : FuncId} {first cap vs : List AV} {v : AV} {K : AV -> AS -> Prop} (h : PF P fid ((first ++ vs ++ cap).map (S.view VD)) v) (hfl : hasM.hasML (first ++ vs ++ cap) = true -> flat v = true) (hm : zco S.marks S.heap)
  (hk : K v S) : WpCall P w0 N0 S (.fn fid first cap) vs K := by
 have hv : (⟨0, .nil, S.hs.heap, S.hs.next, S.hs.clk, []⟩ : AS).view VD = S.view VD := funext fun x => by
  have : ∀ (d : Nat) (x : AV), (⟨0, .nil, S.hs.heap, S.hs.next, S.hs.clk, []⟩ : AS).view d x = S.view d x := by
   intro d
   induction d with
   | zero => intro x; rfl
   | succ d ih =>
    intro x;have ih' : (⟨0, .nil, S.hs.heap, S.hs.next, S.hs.clk, []⟩ : AS).view d = S.view d := funext ih;cases x <;> simp only [AS.view, ih'] <;> rfl
  exact this VD x
 refine ⟨⟨fun v' H' => v' = v /\ H' = S.hs, zbk (FT_of_PF (H := S.hs) (by rw [hv]; exact h) hfl), fun v' H' ⟨e1, e2⟩ => ?_⟩⟩;subst e1 e2;exact ⟨hm, hk⟩
theorem zlt {x i : Arg} {s : List UInt8} {k : IntKind} {n : Int} {b : UInt8} (hx : S.arg x = some (.str s)) (hi : S.arg i = some (.int k n)) (h0 : 0 <= n) (hb : s[n.toNat]? = some b) : iop S (.idxstr x i) = some (.int .u8 b.toNat, S) := by
 simp only [iop, hx, hi, if_pos h0, hb]
theorem iop_idxs {sz : Nat} {x i : Arg} {es : List (List AV)} {e : List AV} {k : IntKind} {n : Int} (hx : S.arg x = some (.vs es)) (hi : S.arg i = some (.int k n)) (h0 : 0 <= n) (hb : es[n.toNat]? = some e) (he : e.length = sz) : iop S (.idxs sz x i) = some (.vptr e, S) := by
 have hlt : n < es.length := by have := (y05.1 hb).1; omega
 simp only [iop, hx, hi, if_pos (And.intro h0 hlt), hb, if_pos he]
def zet : List (Nat × AV) -> TM
 | [] => .nil
 | (d, v) :: l => putT d v (zet l)
theorem zoo {d : Nat} {v : AV} {T : TM} : ∀ {l : List (Nat × AV)}, (∀ x ∈ l, zao x.1 T = some x.2) -> zao d (zet l) = some v -> zao d T = some v
 | [], _, h => by simp [zet, zdq] at h
 | (k, u) :: l, hl, h => by
  simp only [zet, zcc] at h;by_cases e : k = d
  ·subst e; rw [if_pos rfl] at h; injection h with h; subst h; exact hl (k, u) (y01 ..)
  ·rw [if_neg e] at h; exact zoo (fun x hx => hl x (y0a _ hx)) h
theorem Sub.tm {l : List (Nat × AV)} {n : Nat} {hp : List (Nat × Nat × AObj)} {nx ck : Nat} {mk : List (Nat × Nat)} (h1 : n = S.size) (h2 : hp = S.heap) (h3 : nx = S.next) (h4 : ck = S.clk) (h5 : mk = S.marks)
  (h : ∀ x ∈ l, zao x.1 S.tmps = some x.2) : Sub w0 N0 S ⟨n, zet l, hp, nx, ck, mk⟩ :=
 Sub.of h1 h2 h3 h4 h5 fun _ _ hv => zoo h hv
end
def Env.ask (E : Env) (o : FuncId -> List AV -> Option AV) (k : FuncId -> Bool) : Env := { E with orc := o, pure := fun _ => false, known := k }
theorem EnvOk.ask {P : Program} {E : Env} (h : EnvOk P E) {o : FuncId -> List AV -> Option AV} {k : FuncId -> Bool} (ho : ∀ f args v, o f args = some v -> PF P f args v) : EnvOk P (E.ask o k) :=
 ⟨h.fn, ho, h.sum, h.mix⟩
def R0 : Rec := ⟨fun _ _ _ => none, fun _ _ _ => none⟩
theorem R0_ok {P : Program} : zjd P R0 := ⟨fun _ _ _ _ _ h => (by cases h), fun _ _ _ _ _ h => (by cases h)⟩
open Classical in
noncomputable def zer : List (FuncId × List AV × AV) -> FuncId -> List AV -> Option AV
 | [], _, _ => none
 | (g, as, v) :: l, f, args => if g = f /\ as = args then some v else zer l f args
theorem zhd {P : Program} : ∀ {l : List (FuncId × List AV × AV)}, (∀ x ∈ l, PF P x.1 x.2.1 x.2.2) -> ∀ f args v, zer l f args = some v -> PF P f args v
 | [], _, f, args, v, h => by cases h
 | (g, as, u) :: l, hl, f, args, v, h => by
  simp only [zer] at h;split at h
  ·rename_i hc;obtain ⟨rfl, rfl⟩ := hc;simp only [y00] at h; subst h;exact hl _ (y01 ..)
  ·exact zhd (fun x hx => hl x (y0a _ hx)) f args v h
theorem zb6 {f : FuncId} {args : List AV} {v : AV} {l : List (FuncId × List AV × AV)} : zer ((f, args, v) :: l) f args = some v := by simp [zer]
theorem zd3 {f g : FuncId} {args as : List AV} {v u : AV} {l : List (FuncId × List AV × AV)} (hn : g ≠ f) (h : zer l f args = some v) : zer ((g, as, u) :: l) f args = some v := by simp [zer, hn, h]
section
variable {P : Program} {w0 w : World} {N0 : Nat} {S S' : AS} {rd : Option (Nat × Nat)} {E : Env}
end
end Go.Am
