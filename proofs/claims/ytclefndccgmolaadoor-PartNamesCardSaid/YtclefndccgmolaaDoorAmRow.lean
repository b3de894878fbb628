/-
  FROM A KNOWN CALL TO A ROW's CONTRACT. A general base for proofs: no program is named here.
-/
import Derived.Test.YtclefndccgmolaaDoorAmTab
import Derived.WalkKit
import Derived.ProofKit
import Derived.OpenShut
import Derived.Deep.DeepHandedRow
import Derived.Lib.LaidTab
import Derived.Lib.SmallJoins
import Derived.ChangeMaps5
namespace Go.Am
open Go Go.RowKit Go.ChangeShapes Go.WideShapes Go.ChangeAt Go.Deep

theorem Below.kept {w w' : World} (h : Below w.heap.size w w') (may : MemPlace → Prop) : w.keptBut w' may := by
  refine ⟨h.os, h.output, fun i hi => ?_⟩
  rw [h.block i hi]
  cases w.heap[i]? with
  | none => rfl
  | some o => cases o <;> simp

/-- What a row asks, where nothing that was there is turned. -/
theorem post_below {H : Type} {enc : TypeId × Value → H} {P : Program} {f : Func} {s : ChangeSpec} {apart fresh handsOn again : Bool} {W W' : World} {args : Array Value} {v : Value} {ds gs : List (DataW H)} {before pa pv : List MemPlace}
    (hW : DataW.Whole enc P f.params.toList s.vars apart W args.toList ds gs before)
    (hres : ∀ (b : Nat) (sp : Nat → Bool) (hd : Bool), DataW.TrodAll enc P W' b sp hd f.resultTypes.toList (v.resultList f.resultTypes.size) (s.fn H (ds ++ gs)).results [])
    (hargs : ∀ sp : Nat → Bool, (∀ p ∈ before, sp p.block = true) → DataW.TrodAll enc P W' 0 sp true f.params.toList args.toList (s.fn H (ds ++ gs)).args pa)
    (hvars : ∀ sp : Nat → Bool, (∀ p ∈ before, sp p.block = true) → DataW.TrodVars enc P W' sp s.vars (s.fn H (ds ++ gs)).vars pv)
    (hps : before = pa ++ pv) (hB : Below W.heap.size W W')
    (hok : ∀ (j : Nat) (t : TypeId) (r : Value), f.resultTypes[j]? = some t → (v.resultList f.resultTypes.size)[j]? = some r → Value.okWide P W' .any 0 t r) :
    s.post enc P f apart fresh handsOn again W args v W' := by
  have hold : ∀ p ∈ before, (fun b => decide (b < W.heap.size)) p.block = true := fun p hp => by simpa using hW.lt p hp
  have hlt := hW.lt
  refine ⟨ds, gs, before, [], pa, pv, hW, hres _ _ _, hargs _ hold, hvars _ hold, World.keptBut_mono (fun p hp => ⟨hp, ?_⟩) (Below.kept hB (· ∈ before)), fun _ => ?_⟩
  · rw [hps, List.mem_append] at hp
    exact Or.inr hp
  · obtain ⟨_, _, _, _, _, hz, hn⟩ := hW
    refine ⟨hok, _, _, ([] ++ pa) ++ pv, ⟨[] ++ pa, pv, trodAll_append (hargs _ (fun _ _ => rfl)) (hres _ _ _), hvars _ (fun _ _ => rfl), rfl, ?_, ?_⟩, ?_⟩
    · intro b off hp
      have hm : MemPlace.cell b off ∈ before := by rw [hps]; simpa using hp
      have hb : b < W.heap.size := hlt _ hm
      have : W'.frozen? ⟨b, off, none⟩ = W.frozen? ⟨b, off, none⟩ := by
        simp only [World.frozen?, hB.block b hb]
      rw [this]
      exact hz b off hm
    · intro ha
      have := hn ha
      rw [hps] at this
      simpa using this
    · intro p hp _
      rw [hps]
      simpa using hp

/-- A known call that answers true, at a world. -/
theorem calls_true {P : Program} {f : FuncId} {as : List AV} {us : Array Value} {W : World} (h : PF P f as (.bool true)) (hg : GOk (fun _ => True) W) (ha : CRel W (fun _ => True) none as us) :
    Calls P f us W fun e w' => e = .returned (.bool true) ∧ Below W.heap.size W w' :=
  (h.2 (fun _ => True) W us hg ha).mono fun e w' ⟨u, h1, h2, h3⟩ => by
    cases h3
    exact ⟨h1, h2⟩

theorem crel_nil {w : World} {ro : Nat → Prop} {L : Option LI} : CRel w ro L [] #[] := ⟨rfl, fun i x hx => by simp at hx⟩

theorem crel_of {w : World} {ro : Nat → Prop} {L : Option LI} : ∀ {as : List AV} {us : List Value}, us.length = as.length → (∀ (i : Nat) (x : AV) (u : Value), as[i]? = some x → us[i]? = some u → VRel w ro L x u) → CRel w ro L as us.toArray := by
  intro as us hl h
  refine ⟨by simpa using hl, fun i x hx => ?_⟩
  have hi : i < us.length := by rw [hl]; exact (List.getElem?_eq_some_iff.1 hx).1
  have : us.toArray.getD i undef = us[i] := by simp [Array.getD_eq_getD_getElem?, hi]
  rw [this]
  exact h i x _ hx (by simp [hi])

theorem crel1 {w : World} {ro : Nat → Prop} {L : Option LI} {a : AV} {u : Value} (h : VRel w ro L a u) : CRel w ro L [a] #[u] :=
  crel_of (us := [u]) rfl fun i x y hx hy => by
    match i with
    | 0 => simp at hx hy; subst hx hy; exact h
    | i + 1 => simp at hx

theorem crel2 {w : World} {ro : Nat → Prop} {L : Option LI} {a b : AV} {u v : Value} (h : VRel w ro L a u) (h2 : VRel w ro L b v) : CRel w ro L [a, b] #[u, v] :=
  crel_of (us := [u, v]) rfl fun i x y hx hy => by
    match i with
    | 0 => simp at hx hy; subst hx hy; exact h
    | 1 => simp at hx hy; subst hx hy; exact h2
    | i + 2 => simp at hx

theorem crel3 {w : World} {ro : Nat → Prop} {L : Option LI} {a b c : AV} {u v x : Value} (h : VRel w ro L a u) (h2 : VRel w ro L b v) (h3 : VRel w ro L c x) : CRel w ro L [a, b, c] #[u, v, x] :=
  crel_of (us := [u, v, x]) rfl fun i x y hx hy => by
    match i with
    | 0 => simp at hx hy; subst hx hy; exact h
    | 1 => simp at hx hy; subst hx hy; exact h2
    | 2 => simp at hx hy; subst hx hy; exact h3
    | i + 3 => simp at hx

/-- An array of rows of numbers, cell by cell. -/
theorem cells_of_rows {H : Type} {enc : TypeId × Value → H} {P : Program} {w : World} {base : Nat} {sp : Nat → Bool} {held : Bool} {fuel : Nat} {t e u : TypeId} {n m : Nat} {k : IntKind} {cs : List Value} {rows : List (List Int)} {p : List MemPlace}
    (ht : P.underlying t = some (.array n e)) (he : P.underlying e = some (.array m u)) (hu : P.underlying u = some (.int k)) (hcu : P.cellsOf u = 1) (hce : P.cellsOf e = m) (hct : P.cellsOf t = n * m)
    (h : DataW.trod enc P w base sp held fuel t cs = some (.agg (rows.map (Lib.tabData k)), p)) :
    cs.length = n * m ∧ rows.length = n ∧ ∀ i row, rows[i]? = some row → (cs.drop (i * m)).take m = row.map fun z => Value.int k z := by
  cases fuel with
  | zero => simp [DataW.trod] at h
  | succ fuel =>
    simp only [DataW.trod, ht, hce, hct] at h
    split at h
    · rename_i hl
      obtain ⟨xs, hm, hx⟩ := Option.map_eq_some_iff.1 h
      have hxs : xs.map (·.1) = rows.map (Lib.tabData k : List Int → DataW H) := by
        have := congrArg Prod.fst hx
        simpa using this
      have hxl : xs.length = n := by simpa using Lib.mapM_length hm
      have hzl : rows.length = n := by
        have := congrArg List.length hxs
        simp at this
        omega
      refine ⟨hl, hzl, fun i row hi => ?_⟩
      have hin : i < n := by rw [← hzl]; exact (List.getElem?_eq_some_iff.1 hi).1
      obtain ⟨b, hb, hf⟩ := Lib.mapM_at hm i i (by simp [hin])
      have h2 : (xs.map (·.1))[i]? = some b.1 := by simp [hb]
      rw [hxs, List.getElem?_map, hi] at h2
      simp only [Option.map_some, Option.some.injEq] at h2
      obtain ⟨b1, b2⟩ := b
      simp only at h2
      subst h2
      exact Lib.cells_of_tab he hu hcu hce hf
    · cases h

def isT : Option AV → Bool
  | some (.bool true) => true
  | _ => false

theorem isT_eq {o : Option AV} (h : isT o = true) : o = some (.bool true) := by
  unfold isT at h
  split at h
  · rfl
  · cases h

/-- A struct of two bools, by value. -/
theorem vpair {w : World} {ro : Nat → Prop} {L : Option LI} {a b : AV} {u v : Value} (h : VRel w ro L a u) (h2 : VRel w ro L b v) : VRel w ro L (.agg [a, b]) (.agg #[u, v]) :=
  .agg rfl (crel2 h h2).2

theorem vstr {w : World} {ro : Nat → Prop} {L : Option LI} {t : ByteArray} {l : List UInt8} (h : t.data.toList = l) : VRel w ro L (.str l) (.string t) := by
  subst h; exact .str

section
variable {H : Type} {enc : TypeId × Value → H} {P : Program} {w : World} {base : Nat} {spare : Nat → Bool} {held : Bool}

theorem open_bools2 {r : Reach} {b0 : Nat} {t : TypeId} {f0 f1 : Field} {v : Value} {d : DataW H} {p : List MemPlace} (hs : P.underlying t = some (.struct #[f0, f1])) (hone : oneCellFields P #[f0, f1] = true) (hC : P.cellsOf t = 2)
    (h0 : P.underlying f0.type = some .bool) (h1 : P.underlying f1.type = some .bool) (hv : Value.okWide P w r b0 t v) (h : DataW.Trod enc P w base spare held t v d p) :
    ∃ a b : Bool, v = .agg #[.bool a, .bool b] ∧ d = .agg [.lit (.bool a), .lit (.bool b)] ∧ p = [] := by
  obtain ⟨v0, v1, y0, y1, n, rfl, rfl, rfl, t0, t1⟩ := Joins.open_agg2 hs hone hC hv h
  obtain ⟨a, e0, rfl⟩ := DataW.trod_bool h0 t0
  obtain ⟨b, e1, rfl⟩ := DataW.trod_bool h1 t1
  simp only [List.cons.injEq, and_true] at e0 e1
  subst e0 e1
  exact ⟨a, b, rfl, rfl, rfl⟩

theorem shut_bools2 {t : TypeId} {f0 f1 : Field} (hs : P.underlying t = some (.struct #[f0, f1])) (hone : oneCellFields P #[f0, f1] = true) (hC : P.cellsOf t = 2)
    (h0 : P.underlying f0.type = some .bool) (h1 : P.underlying f1.type = some .bool) (a b : Bool) : DataW.Trod enc P w base spare held t (.agg #[.bool a, .bool b]) (.agg [.lit (.bool a), .lit (.bool b)]) [] :=
  Joins.shut_agg2 (y0 := (.lit (.bool a), [])) (y1 := (.lit (.bool b), [])) hs hone hC ⟨1, by simp [DataW.trod, h0]⟩ ⟨1, by simp [DataW.trod, h1]⟩

end

end Go.Am
