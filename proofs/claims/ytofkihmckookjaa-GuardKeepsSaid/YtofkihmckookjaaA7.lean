/-
  AN ABSTRACT MACHINE FOR PROOFS, PART 7. A general base for proofs: no program is named here.
-/
import Derived.Test.YtofkihmckookjaaA6
import Derived.WalkKit
import Derived.ProofKit
import Derived.OpenShut
import Derived.Deep.DeepHandedRow
import Derived.Lib.LaidTab
import Derived.Lib.SmallJoins
import Derived.ChangeMaps5

/-! FROM A KNOWN CALL TO A ROW's CONTRACT. A general base for proofs: no program is named here. -/

namespace Go.Am
open Go Go.RowKit Go.ChangeShapes Go.WideShapes Go.ChangeAt Go.Deep

theorem Below.kept {w w' : World} (h : Below w.heap.size w w') (may : MemPlace → Prop) : w.keptBut w' may := by
  refine ⟨h.os, h.output, fun i hi => ?_⟩
  rw [h.block i hi]
  cases w.heap[i]? with
  | none => rfl
  | some o => cases o <;> simp

/-- What a row asks, where nothing that was there is turned. -/
theorem post_below {H : Type} {enc : TypeId × Value → H} {P : Program} {f : Func} {s : ChangeSpec} {apart fresh handsOn again : Bool} {W W' : World} {args : Array Value} {v : Value} {ds gs : List (DataW H)} {before pa pv : List MemPlace}
    (hW : DataW.Whole enc P f.params.toList s.vars apart W args.toList ds gs before)
    (hres : ∀ (b : Nat) (sp : Nat → Bool) (hd : Bool), DataW.TrodAll enc P W' b sp hd f.resultTypes.toList (v.resultList f.resultTypes.size) (s.fn H (ds ++ gs)).results [])
    (hargs : ∀ sp : Nat → Bool, (∀ p ∈ before, sp p.block = true) → DataW.TrodAll enc P W' 0 sp true f.params.toList args.toList (s.fn H (ds ++ gs)).args pa)
    (hvars : ∀ sp : Nat → Bool, (∀ p ∈ before, sp p.block = true) → DataW.TrodVars enc P W' sp s.vars (s.fn H (ds ++ gs)).vars pv)
    (hps : before = pa ++ pv) (hB : Below W.heap.size W W')
    (hok : ∀ (j : Nat) (t : TypeId) (r : Value), f.resultTypes[j]? = some t → (v.resultList f.resultTypes.size)[j]? = some r → Value.okWide P W' .any 0 t r) :
    s.post enc P f apart fresh handsOn again W args v W' := by
  have hold : ∀ p ∈ before, (fun b => decide (b < W.heap.size)) p.block = true := fun p hp => by simpa using hW.lt p hp
  have hlt := hW.lt
  refine ⟨ds, gs, before, [], pa, pv, hW, hres _ _ _, hargs _ hold, hvars _ hold, World.keptBut_mono (fun p hp => ⟨hp, ?_⟩) (Below.kept hB (· ∈ before)), fun _ => ?_⟩
  · rw [hps, List.mem_append] at hp
    exact Or.inr hp
  · obtain ⟨_, _, _, _, _, hz, hn⟩ := hW
    refine ⟨hok, _, _, ([] ++ pa) ++ pv, ⟨[] ++ pa, pv, trodAll_append (hargs _ (fun _ _ => rfl)) (hres _ _ _), hvars _ (fun _ _ => rfl), rfl, ?_, ?_⟩, ?_⟩
    · intro b off hp
      have hm : MemPlace.cell b off ∈ before := by rw [hps]; simpa using hp
      have hb : b < W.heap.size := hlt _ hm
      have : W'.frozen? ⟨b, off, none⟩ = W.frozen? ⟨b, off, none⟩ := by
        simp only [World.frozen?, hB.block b hb]
      rw [this]
      exact hz b off hm
    · intro ha
      have := hn ha
      rw [hps] at this
      simpa using this
    · intro p hp _
      rw [hps]
      simpa using hp

/-- A known call that answers true, at a world. -/
theorem calls_true {P : Program} {f : FuncId} {as : List AV} {us : Array Value} {W : World} (h : PF P f as (.bool true)) (hg : GOk (fun _ => True) W) (ha : CRel W (fun _ => True) none as us) :
    Calls P f us W fun e w' => e = .returned (.bool true) ∧ Below W.heap.size W w' :=
  (h.2 (fun _ => True) W us hg ha).mono fun e w' ⟨u, h1, h2, h3⟩ => by
    cases h3
    exact ⟨h1, h2⟩

theorem crel_nil {w : World} {ro : Nat → Prop} {L : Option LI} : CRel w ro L [] #[] := ⟨rfl, fun i x hx => by simp at hx⟩

theorem crel_of {w : World} {ro : Nat → Prop} {L : Option LI} : ∀ {as : List AV} {us : List Value}, us.length = as.length → (∀ (i : Nat) (x : AV) (u : Value), as[i]? = some x → us[i]? = some u → VRel w ro L x u) → CRel w ro L as us.toArray := by
  intro as us hl h
  refine ⟨by simpa using hl, fun i x hx => ?_⟩
  have hi : i < us.length := by rw [hl]; exact (List.getElem?_eq_some_iff.1 hx).1
  have : us.toArray.getD i undef = us[i] := by simp [Array.getD_eq_getD_getElem?, hi]
  rw [this]
  exact h i x _ hx (by simp [hi])

theorem crel1 {w : World} {ro : Nat → Prop} {L : Option LI} {a : AV} {u : Value} (h : VRel w ro L a u) : CRel w ro L [a] #[u] :=
  crel_of (us := [u]) rfl fun i x y hx hy => by
    match i with
    | 0 => simp at hx hy; subst hx hy; exact h
    | i + 1 => simp at hx

theorem crel2 {w : World} {ro : Nat → Prop} {L : Option LI} {a b : AV} {u v : Value} (h : VRel w ro L a u) (h2 : VRel w ro L b v) : CRel w ro L [a, b] #[u, v] :=
  crel_of (us := [u, v]) rfl fun i x y hx hy => by
    match i with
    | 0 => simp at hx hy; subst hx hy; exact h
    | 1 => simp at hx hy; subst hx hy; exact h2
    | i + 2 => simp at hx

theorem crel3 {w : World} {ro : Nat → Prop} {L : Option LI} {a b c : AV} {u v x : Value} (h : VRel w ro L a u) (h2 : VRel w ro L b v) (h3 : VRel w ro L c x) : CRel w ro L [a, b, c] #[u, v, x] :=
  crel_of (us := [u, v, x]) rfl fun i x y hx hy => by
    match i with
    | 0 => simp at hx hy; subst hx hy; exact h
    | 1 => simp at hx hy; subst hx hy; exact h2
    | 2 => simp at hx hy; subst hx hy; exact h3
    | i + 3 => simp at hx

/-- An array of rows of numbers, cell by cell. -/
theorem cells_of_rows {H : Type} {enc : TypeId × Value → H} {P : Program} {w : World} {base : Nat} {sp : Nat → Bool} {held : Bool} {fuel : Nat} {t e u : TypeId} {n m : Nat} {k : IntKind} {cs : List Value} {rows : List (List Int)} {p : List MemPlace}
    (ht : P.underlying t = some (.array n e)) (he : P.underlying e = some (.array m u)) (hu : P.underlying u = some (.int k)) (hcu : P.cellsOf u = 1) (hce : P.cellsOf e = m) (hct : P.cellsOf t = n * m)
    (h : DataW.trod enc P w base sp held fuel t cs = some (.agg (rows.map (Lib.tabData k)), p)) :
    cs.length = n * m ∧ rows.length = n ∧ ∀ i row, rows[i]? = some row → (cs.drop (i * m)).take m = row.map fun z => Value.int k z := by
  cases fuel with
  | zero => simp [DataW.trod] at h
  | succ fuel =>
    simp only [DataW.trod, ht, hce, hct] at h
    split at h
    · rename_i hl
      obtain ⟨xs, hm, hx⟩ := Option.map_eq_some_iff.1 h
      have hxs : xs.map (·.1) = rows.map (Lib.tabData k : List Int → DataW H) := by
        have := congrArg Prod.fst hx
        simpa using this
      have hxl : xs.length = n := by simpa using Lib.mapM_length hm
      have hzl : rows.length = n := by
        have := congrArg List.length hxs
        simp at this
        omega
      refine ⟨hl, hzl, fun i row hi => ?_⟩
      have hin : i < n := by rw [← hzl]; exact (List.getElem?_eq_some_iff.1 hi).1
      obtain ⟨b, hb, hf⟩ := Lib.mapM_at hm i i (by simp [hin])
      have h2 : (xs.map (·.1))[i]? = some b.1 := by simp [hb]
      rw [hxs, List.getElem?_map, hi] at h2
      simp only [Option.map_some, Option.some.injEq] at h2
      obtain ⟨b1, b2⟩ := b
      simp only at h2
      subst h2
      exact Lib.cells_of_tab he hu hcu hce hf
    · cases h

def isT : Option AV → Bool
  | some (.bool true) => true
  | _ => false

theorem isT_eq {o : Option AV} (h : isT o = true) : o = some (.bool true) := by
  unfold isT at h
  split at h
  · rfl
  · cases h

/-- A struct of two bools, by value. -/
theorem vpair {w : World} {ro : Nat → Prop} {L : Option LI} {a b : AV} {u v : Value} (h : VRel w ro L a u) (h2 : VRel w ro L b v) : VRel w ro L (.agg [a, b]) (.agg #[u, v]) :=
  .agg rfl (crel2 h h2).2

theorem vstr {w : World} {ro : Nat → Prop} {L : Option LI} {t : ByteArray} {l : List UInt8} (h : t.data.toList = l) : VRel w ro L (.str l) (.string t) := by
  subst h; exact .str

section
variable {H : Type} {enc : TypeId × Value → H} {P : Program} {w : World} {base : Nat} {spare : Nat → Bool} {held : Bool}

theorem open_bools2 {r : Reach} {b0 : Nat} {t : TypeId} {f0 f1 : Field} {v : Value} {d : DataW H} {p : List MemPlace} (hs : P.underlying t = some (.struct #[f0, f1])) (hone : oneCellFields P #[f0, f1] = true) (hC : P.cellsOf t = 2)
    (h0 : P.underlying f0.type = some .bool) (h1 : P.underlying f1.type = some .bool) (hv : Value.okWide P w r b0 t v) (h : DataW.Trod enc P w base spare held t v d p) :
    ∃ a b : Bool, v = .agg #[.bool a, .bool b] ∧ d = .agg [.lit (.bool a), .lit (.bool b)] ∧ p = [] := by
  obtain ⟨v0, v1, y0, y1, n, rfl, rfl, rfl, t0, t1⟩ := Joins.open_agg2 hs hone hC hv h
  obtain ⟨a, e0, rfl⟩ := DataW.trod_bool h0 t0
  obtain ⟨b, e1, rfl⟩ := DataW.trod_bool h1 t1
  simp only [List.cons.injEq, and_true] at e0 e1
  subst e0 e1
  exact ⟨a, b, rfl, rfl, rfl⟩

theorem shut_bools2 {t : TypeId} {f0 f1 : Field} (hs : P.underlying t = some (.struct #[f0, f1])) (hone : oneCellFields P #[f0, f1] = true) (hC : P.cellsOf t = 2)
    (h0 : P.underlying f0.type = some .bool) (h1 : P.underlying f1.type = some .bool) (a b : Bool) : DataW.Trod enc P w base spare held t (.agg #[.bool a, .bool b]) (.agg [.lit (.bool a), .lit (.bool b)]) [] :=
  Joins.shut_agg2 (y0 := (.lit (.bool a), [])) (y1 := (.lit (.bool b), [])) hs hone hC ⟨1, by simp [DataW.trod, h0]⟩ ⟨1, by simp [DataW.trod, h1]⟩

end

end Go.Am

/-! CODE OVER STATES OF WHICH SOME VALUES ARE UNKNOWN NUMBERS, TEXTS, LISTS: what is left to show, as a proposition. A general base for proofs: no program is named here. -/

namespace Go.Am
open Go Go.RowKit

def isCmp : BinOp → Bool
  | .eql | .neq | .lss | .leq | .gtr | .geq => true
  | _ => false

/-- A known truth, or both. -/
def askB (o : Option AV) (K : AV → Prop) : Prop :=
  match o with
  | some (.bool t) => (t = true → K (.bool true)) ∧ (t = false → K (.bool false))
  | _ => False

def knownO (o : Option (AV × AS)) (K : AV → AS → Prop) : Prop :=
  match o with
  | some (v, S1) => K v S1
  | none => False

/-- Operations whose answer may hang on a side condition. -/
def asked : IOp → Bool
  | .store .. | .mkslice .. | .slsl .. | .slarr .. | .slstr .. | .idxs .. | .idxarr .. | .idxagg .. | .idxstr .. | .append .. | .appendz .. | .copy .. | .minmax .. | .mapset .. | .mapget .. => true
  | _ => false

section
variable (P : Program) (w0 : World) (N0 : Nat)

structure WpCall (S : AS) (fv : AV) (vs : List AV) (K : AV → AS → Prop) : Prop where
  ok : ∃ Fk : AV → HS → Prop, CT P w0 N0 fv vs S.hs Fk ∧ ∀ v H, Fk v H → marksOk S.marks H.heap ∧ K v (S.withH H)

structure WpT (rd : Option (Nat × Nat)) (ic : IC) (S : AS) (K : Exit → AS → Prop) : Prop where
  ok : T P w0 N0 rd ic S K

def wpOp (S : AS) (op : IOp) (K : AV → AS → Prop) : Prop :=
  match op with
  | .bin op x y => match S.arg x, S.arg y with
    | some a, some b => if isCmp op then askB (binOp op a b) (K · S) else knownO ((binOp op a b).map (·, S)) K
    | _, _ => False
  | .eqb neg x y => askB ((iop S (.eqb neg x y)).map (·.1)) (K · S)
  | .eqs neg fs x y => askB ((iop S (.eqs neg fs x y)).map (·.1)) (K · S)
  | .call fa args => match S.arg fa, S.args args with
    | some fv, some vs => WpCall P w0 N0 S fv vs K
    | _, _ => False
  | op => if asked op then ∃ v S1, iop S op = some (v, S1) ∧ K v S1 else knownO (iop S op) K

def wpPut (dst : Option Nat) (v : AV) (S : AS) (K : AS → Prop) : Prop :=
  match okDst S.size dst with
  | true => K (S.put dst v)
  | false => False

def wpO : List Opr → AS → (AS → Prop) → Prop
  | [], S, K => K S
  | io :: ios, S, K => match wantedA S io with
    | some true => wpOp P w0 N0 S io.op fun v S1 => wpPut io.dst v S1 fun S2 => wpO ios S2 K
    | some false => wpPut io.dst (.tup []) S fun S2 => wpO ios S2 K
    | none => False

/-- What is left to show of code. Loops, drawn regions and ranges over functions are left as they are. -/
def wpC (rd : Option (Nat × Nat)) : IC → AS → (Exit → AS → Prop) → Prop
  | .skip, S, K => K .normal S
  | .region ios none, S, K => wpO P w0 N0 ios S (K .normal)
  | .region ios (some pres), S, K => WpT P w0 N0 rd (.region ios (some pres)) S K
  | .seq a b, S, K => wpC rd a S fun e S1 => match e with
    | .normal => wpC rd b S1 K
    | e => K e S1
  | .cond c a b, S, K => match S.arg c with
    | some (.bool t) => match t with
      | true => wpC rd a S K
      | false => wpC rd b S K
    | _ => False
  | .block id b, S, K => wpC rd b S (QBlock id K)
  | .loop b, S, K => WpT P w0 N0 rd (.loop b) S K
  | .rangeFunc g ps ca cb a b, S, K => WpT P w0 N0 rd (.rangeFunc g ps ca cb a b) S K
  | .exit id, S, K => K (.exit id) S
  | .ret, S, K => K .ret S

end

section
variable {P : Program} {w0 w : World} {N0 : Nat} {S S' : AS} {rd : Option (Nat × Nat)}

theorem bool_of_cmp {op : BinOp} (hc : isCmp op = true) {a b v : AV} (h : binOp op a b = some v) : ∃ t, v = .bool t := by
  have key : ∀ {o : Option Bool}, o.map AV.bool = some v → ∃ t, v = .bool t := fun {o} h => by
    simp only [Option.map_eq_some_iff] at h
    obtain ⟨t, _, rfl⟩ := h; exact ⟨t, rfl⟩
  unfold binOp at h
  split at h
  · split at h <;> try (simp [isCmp] at hc; done)
    split at h <;> try cases h
    cases op <;> simp only [isCmp, Bool.false_eq_true] at hc <;> simp only [binInt, Option.some.injEq] at h <;> exact ⟨_, h.symm⟩
  · cases op <;> simp only [isCmp, Bool.false_eq_true] at hc <;> simp only [binStr, Option.some.injEq] at h <;> exact ⟨_, h.symm⟩
  · unfold binAbs at h
    split at h
    · split at h <;> try cases h
      exact key h
    · split at h <;> try cases h
      exact key h
    · split at h <;> try cases h
      cases op <;> simp only [isCmp, Bool.false_eq_true] at hc <;> simp [remInts] at h
    · exact key h
    · exact key h
    · cases h

theorem TO_wp {K : AS → Prop} : ∀ {ios : List Opr} {S : AS}, wpO P w0 N0 ios S K → TO P w0 N0 rd ios S K
  | [], S, h => TO_nil h
  | io :: ios, S, h => by
    have put : ∀ {v : AV} {S1 : AS}, wpPut io.dst v S1 (fun S2 => wpO P w0 N0 ios S2 K) → okDst S1.size io.dst = true ∧ TO P w0 N0 rd ios (S1.put io.dst v) K := by
      intro v S1 h
      unfold wpPut at h
      split at h
      · rename_i hd; exact ⟨hd, TO_wp h⟩
      · exact h.elim
    simp only [wpO] at h
    split at h
    · rename_i hw
      have ofIop : ∀ {v : AV} {S1 : AS}, iop S io.op = some (v, S1) → wpPut io.dst v S1 (fun S2 => wpO P w0 N0 ios S2 K) → TO P w0 N0 rd (io :: ios) S K := by
        intro v S1 hi hk
        refine TO_cons (Stp_op hi) hw fun S2 v2 ⟨e1, e2⟩ => ?_
        subst e1 e2; exact put hk
      have ofAsk : ∀ {o : Option AV}, (∀ v, o = some v → iop S io.op = some (v, S)) → askB o (fun v => wpPut io.dst v S fun S2 => wpO P w0 N0 ios S2 K) → TO P w0 N0 rd (io :: ios) S K := by
        intro o hi hk
        unfold askB at hk
        split at hk
        · rename_i t
          cases t with
          | true => exact ofIop (hi _ rfl) (hk.1 rfl)
          | false => exact ofIop (hi _ rfl) (hk.2 rfl)
        · exact hk.elim
      unfold wpOp at h
      split at h
      · rename_i op x y hop
        split at h
        · rename_i a b ha hb
          split at h
          · exact ofAsk (fun v hv => by rw [hop]; simp only [iop, ha, hb, hv]; rfl) h
          · unfold knownO at h
            split at h
            · rename_i v S1 hv
              exact ofIop (by rw [hop]; simp only [iop, ha, hb]; exact hv) h
            · exact h.elim
        · exact h.elim
      · rename_i neg x y hop
        refine ofAsk (fun v hv => ?_) h
        simp only [Option.map_eq_some_iff, Prod.exists, exists_and_right, exists_eq_right] at hv
        obtain ⟨S1, hv⟩ := hv
        rw [hop, hv, iop_quiet rfl hv]
      · rename_i neg fs x y hop
        refine ofAsk (fun v hv => ?_) h
        simp only [Option.map_eq_some_iff, Prod.exists, exists_and_right, exists_eq_right] at hv
        obtain ⟨S1, hv⟩ := hv
        rw [hop, hv, iop_quiet rfl hv]
      · rename_i fa args hop
        split at h
        · rename_i fv vs hf ha
          obtain ⟨Fk, hct, hk⟩ := h.ok
          exact TO_cons (Stp_ct hop hf ha hct fun v H hF => (hk v H hF).1) hw fun S2 v2 ⟨H, hF, e⟩ => by subst e; exact put (hk v2 H hF).2
        · exact h.elim
      · split at h
        · obtain ⟨v, S1, hi, hk⟩ := h
          exact ofIop hi hk
        · unfold knownO at h
          split at h
          · rename_i v S1 hi; exact ofIop hi h
          · exact h.elim
    · rename_i hw
      unfold wpPut at h
      split at h
      · rename_i hd; exact TO_skip hw hd (TO_wp h)
      · exact h.elim
    · exact h.elim

theorem T_wp : ∀ {ic : IC} {S : AS} {K : Exit → AS → Prop}, wpC P w0 N0 rd ic S K → T P w0 N0 rd ic S K := by
  intro ic
  induction ic with
  | skip => intro S K h; exact T_skip h
  | region ios d =>
    intro S K h
    cases d with
    | none => exact T_region (TO_wp h)
    | some pres => exact h.ok
  | seq a b iha ihb =>
    intro S K h
    refine T_seq (T_mono (iha h) fun e S1 hk => ?_)
    cases e with
    | normal => exact ihb hk
    | _ => exact hk
  | cond c a b iha ihb =>
    intro S K h
    simp only [wpC] at h
    split at h
    · rename_i t hc
      refine T_cond hc ?_
      cases t with
      | true => exact iha h
      | false => exact ihb h
    · exact h.elim
  | block id b ih => intro S K h; exact T_block (ih h)
  | loop b _ => intro S K h; exact h.ok
  | rangeFunc => intro S K h; exact h.ok
  | exit id => intro S K h; exact T_exit h
  | ret => intro S K h; exact T_ret h

/-- Less may be known behind than before. -/
theorem Sub.of {S S' : AS} (h1 : S'.size = S.size) (h2 : S'.heap = S.heap) (h3 : S'.next = S.next) (h4 : S'.clk = S.clk) (h5 : S'.marks = S.marks) (hi : ∀ d v, lookT d S'.tmps = some v → lookT d S.tmps = some v) : Sub w0 N0 S S' := by
  intro I a w h
  obtain ⟨size, tmps, heap, nx, clk, marks⟩ := S
  obtain ⟨size', tmps', heap', nx', clk', marks'⟩ := S'
  simp only at h1 h2 h3 h4 h5
  subst h1 h2 h3 h4 h5
  exact ⟨I, ⟨h.clk, ⟨h.tmps.1, fun d v hv => h.tmps.2 d v (hi d v hv)⟩, h.hrel, h.marks⟩, Evo.refl I w⟩

/-- A pure function's contract, from its code. -/
theorem PF_of_wp {E : Env} (hE : EnvOk P E) {f : FuncId} {i : FnI} (hf : E.fn f = some i) {args : List AV} {v : AV} (hn : args.length ≤ i.size)
    (h : ∀ w0 N0, wpC P w0 N0 none i.ic (AS.enter i.size args ⟨[], 0, 0⟩) fun e S' => (e = .normal ∨ e = .ret) ∧ ∃ v0, S'.leave.res i.res = some v0 ∧ (⟨0, .nil, S'.leave.heap, S'.leave.next, S'.leave.clk, []⟩ : AS).view VD v0 = v) : PF P f args v := by
  obtain ⟨fn, code, k1, k2, k3, k4, k5, k6⟩ := hE.fn f i hf
  refine PF_of_FT fun w0 N0 => FT_of_T k1 k2 k3 k6 (by rw [k4]; exact hn) k5 ?_
  rw [k4]
  exact T_mono (T_wp (h w0 N0)) fun e S' ⟨h1, v0, h2, h3⟩ => ⟨h1, v0, h2, h3⟩

theorem wpCall_pure {fid : FuncId} {first cap vs : List AV} {v : AV} {K : AV → AS → Prop} (h : PF P fid ((first ++ vs ++ cap).map (S.view VD)) v) (hfl : hasM.hasML (first ++ vs ++ cap) = true → flat v = true) (hm : marksOk S.marks S.heap)
    (hk : K v S) : WpCall P w0 N0 S (.fn fid first cap) vs K := by
  have hv : (⟨0, .nil, S.hs.heap, S.hs.next, S.hs.clk, []⟩ : AS).view VD = S.view VD := funext fun x => by
    have : ∀ (d : Nat) (x : AV), (⟨0, .nil, S.hs.heap, S.hs.next, S.hs.clk, []⟩ : AS).view d x = S.view d x := by
      intro d
      induction d with
      | zero => intro x; rfl
      | succ d ih =>
        intro x
        have ih' : (⟨0, .nil, S.hs.heap, S.hs.next, S.hs.clk, []⟩ : AS).view d = S.view d := funext ih
        cases x <;> simp only [AS.view, ih'] <;> rfl
    exact this VD x
  refine ⟨⟨fun v' H' => v' = v ∧ H' = S.hs, CT_of_FT (FT_of_PF (H := S.hs) (by rw [hv]; exact h) hfl), fun v' H' ⟨e1, e2⟩ => ?_⟩⟩
  subst e1 e2
  exact ⟨hm, hk⟩

theorem iop_idxstr {x i : Arg} {s : List UInt8} {k : IntKind} {n : Int} {b : UInt8} (hx : S.arg x = some (.str s)) (hi : S.arg i = some (.int k n)) (h0 : 0 ≤ n) (hb : s[n.toNat]? = some b) : iop S (.idxstr x i) = some (.int .u8 b.toNat, S) := by
  simp only [iop, hx, hi, if_pos h0, hb]

theorem iop_store {size : Nat} {p v : Arg} {id st off : Nat} {cs vs : List AV} {x : AV} (hp : S.arg p = some (.mptr id st off)) (hl : look id S.heap = some (st, .cells cs)) (hv : S.arg v = some x) (hc : x.cells? = some vs) (hn : vs.length = size)
    (hle : off + vs.length ≤ cs.length) (ha : vs.all AV.isCell = true) : iop S (.store size p v) = some (.tup [], { S with heap := putl id (st, .cells (setAt off cs vs)) S.heap }) := by
  simp only [iop, hp, hv, hc, if_pos hn, AS.store, hl]
  rw [if_pos ⟨trivial, hle, ha⟩]
  rfl

theorem iop_idxs {sz : Nat} {x i : Arg} {es : List (List AV)} {e : List AV} {k : IntKind} {n : Int} (hx : S.arg x = some (.vs es)) (hi : S.arg i = some (.int k n)) (h0 : 0 ≤ n) (hb : es[n.toNat]? = some e) (he : e.length = sz) : iop S (.idxs sz x i) = some (.vptr e, S) := by
  have hlt : n < es.length := by have := (List.getElem?_eq_some_iff.1 hb).1; omega
  simp only [iop, hx, hi, if_pos (And.intro h0 hlt), hb, if_pos he]

def tmOf : List (Nat × AV) → TM
  | [] => .nil
  | (d, v) :: l => putT d v (tmOf l)

theorem look_tmOf {d : Nat} {v : AV} {T : TM} : ∀ {l : List (Nat × AV)}, (∀ x ∈ l, lookT x.1 T = some x.2) → lookT d (tmOf l) = some v → lookT d T = some v
  | [], _, h => by simp [tmOf, lookT_nil] at h
  | (k, u) :: l, hl, h => by
    simp only [tmOf, lookT_putT] at h
    by_cases e : k = d
    · subst e; rw [if_pos rfl] at h; injection h with h; subst h; exact hl (k, u) (List.mem_cons_self ..)
    · rw [if_neg e] at h; exact look_tmOf (fun x hx => hl x (List.mem_cons_of_mem _ hx)) h

/-- Only what a list names is kept of the temporaries. -/
theorem Sub.tm {l : List (Nat × AV)} {n : Nat} {hp : List (Nat × Nat × AObj)} {nx ck : Nat} {mk : List (Nat × Nat)} (h1 : n = S.size) (h2 : hp = S.heap) (h3 : nx = S.next) (h4 : ck = S.clk) (h5 : mk = S.marks)
    (h : ∀ x ∈ l, lookT x.1 S.tmps = some x.2) : Sub w0 N0 S ⟨n, tmOf l, hp, nx, ck, mk⟩ :=
  Sub.of h1 h2 h3 h4 h5 fun _ _ hv => look_tmOf h hv

end
end Go.Am

/-! MORE OF WHAT IS LEFT TO SHOW: drawn regions that run in the text's order, loops of a few rounds. A general base for proofs: no program is named here. -/

namespace Go.Am
open Go Go.RowKit

/-- Known calls by a function. -/
def Env.ask (E : Env) (o : FuncId → List AV → Option AV) (k : FuncId → Bool) : Env := { E with orc := o, pure := fun _ => false, known := k }

theorem EnvOk.ask {P : Program} {E : Env} (h : EnvOk P E) {o : FuncId → List AV → Option AV} {k : FuncId → Bool} (ho : ∀ f args v, o f args = some v → PF P f args v) : EnvOk P (E.ask o k) :=
  ⟨h.fn, ho, h.sum, h.mix⟩

theorem knownO_of {o : Option (AV × AS)} {K : AV → AS → Prop} {v : AV} {S1 : AS} (h : o = some (v, S1)) (hk : K v S1) : knownO o K := by rw [h]; exact hk

def R0 : Rec := ⟨fun _ _ _ => none, fun _ _ _ => none⟩

theorem R0_ok {P : Program} : RecOk P R0 := ⟨fun _ _ _ _ _ h => (by cases h), fun _ _ _ _ _ h => (by cases h)⟩

def putS2 (dst : Option Nat) (S : AS) (K : AS → Prop) (v : AV) : Prop := K (S.put dst v)

/-- An operation of a drawn region that runs in the text's order. -/
def wpQ (_P : Program) (E : Env) (q ind : Bool) (S : AS) (io : Opr) (K : AV → AS → Prop) : Prop :=
  match io.op with
  | .bin op x y => match S.arg x, S.arg y with
    | some a, some b => if isCmp op then askB (binOp op a b) (K · S) else match binOp op a b with
      | some v => K v S
      | none => False
    | _, _ => False
  | .call _ _ => (q = true ∧ ind = false) ∧ ∃ v, quiet1 E R0 S io = some v ∧ K v S
  | .eqb _ _ _ => (q = true ∧ ind = false) ∧ askB ((iop S io.op).map (·.1)) (K · S)
  | .eqs _ _ _ _ => (q = true ∧ ind = false) ∧ askB ((iop S io.op).map (·.1)) (K · S)
  | _ => match (q && !ind && !loudOp io.op) with
    | true => if asked io.op then ∃ v S1, iop S io.op = some (v, S1) ∧ K v S else knownO (iop S io.op) fun v _ => K v S
    | false => match q with
      | true => match (if ind then stepI E R0 S io else quiet1 E R0 S io) with
        | some v => K v S
        | none => False
      | false => loudOp io.op = true ∧ if asked io.op then ∃ v S1, iop S io.op = some (v, S1) ∧ K v S1 else knownO (iop S io.op) K

def wpS (P : Program) (E : Env) : List Opr → List (Bool × Bool) → AS → (AS → Prop) → Prop
  | [], [], S, K => K S
  | io :: ios, (q, ind) :: fl, S, K => match wantedA S io with
    | some true => wpQ P E q ind S io fun v S1 => wpS P E ios fl (S1.put io.dst v) K
    | some false => wpS P E ios fl (S.put io.dst (.tup [])) K
    | none => False
  | _, _, _, _ => False

theorem wpS_run {P : Program} {E : Env} : ∀ {ios : List Opr} {fl : List (Bool × Bool)} {S : AS} {K : AS → Prop}, wpS P E ios fl S K → ∃ S', runS P E R0 ios fl S = some S' ∧ K S'
  | [], [], S, K, h => ⟨S, rfl, h⟩
  | [], _ :: _, _, _, h => h.elim
  | _ :: _, [], _, _, h => h.elim
  | io :: ios, (q, ind) :: fl, S, K, h => by
    simp only [wpS] at h
    split at h
    · rename_i hw
      have quiet : ∀ {v : AV}, q = true → (if ind then stepI E R0 S io else quiet1 E R0 S io) = some v → wpS P E ios fl (S.put io.dst v) K → ∃ S', runS P E R0 (io :: ios) ((q, ind) :: fl) S = some S' ∧ K S' := by
        intro v hq hv hk
        obtain ⟨S', h1, h2⟩ := wpS_run hk
        refine ⟨S', ?_, h2⟩
        simp only [runS, hw, hq, if_true, hv]
        exact h1
      have loud : ∀ {v : AV} {H : HS}, q = false → step1 P E R0 S io = some (v, H) → wpS P E ios fl ((S.withH H).put io.dst v) K → ∃ S', runS P E R0 (io :: ios) ((q, ind) :: fl) S = some S' ∧ K S' := by
        intro v H hq hv hk
        obtain ⟨S', h1, h2⟩ := wpS_run hk
        refine ⟨S', ?_, h2⟩
        simp only [runS, hw, hq, Bool.false_eq_true, if_false, hv]
        exact h1
      have ask : q = true → ind = false → loudOp io.op = false → (∀ a b, io.op ≠ .call a b) → askB ((iop S io.op).map (·.1)) (fun v => wpS P E ios fl (S.put io.dst v) K) → ∃ S', runS P E R0 (io :: ios) ((q, ind) :: fl) S = some S' ∧ K S' := by
        intro hq hi hl hnc hk
        have fin : ∀ {v : AV}, (iop S io.op).map (·.1) = some v → wpS P E ios fl (S.put io.dst v) K → ∃ S', runS P E R0 (io :: ios) ((q, ind) :: fl) S = some S' ∧ K S' := by
          intro v hv hk
          refine quiet hq ?_ hk
          rw [hi, if_neg (by simp)]
          unfold quiet1
          split
          · rename_i hc; exact absurd hc (hnc _ _)
          · rw [if_neg (by rw [hl]; simp), hv]
        unfold askB at hk
        split at hk
        · rename_i t ht
          cases t with
          | true => exact fin ht (hk.1 rfl)
          | false => exact fin ht (hk.2 rfl)
        · exact hk.elim
      unfold wpQ at h
      split at h
      · rename_i op x y hop
        have bin : ∀ {v : AV}, (match S.arg x, S.arg y with | some a, some b => binOp op a b | _, _ => none) = some v → wpS P E ios fl (S.put io.dst v) K → ∃ S', runS P E R0 (io :: ios) ((q, ind) :: fl) S = some S' ∧ K S' := by
          intro v hv hk
          have hi : ∀ H : HS, iop (S.withH H) io.op = some (v, S.withH H) := by
            intro H
            rw [hop]
            simp only [iop, arg_H]
            split at hv
            · rename_i a b ha hb; simp only [ha, hb, hv]; rfl
            · cases hv
          have hi0 := hi S.hs
          rw [AS.withH_hs] at hi0
          have hl : loudOp io.op = false := by rw [hop]; rfl
          have hq1 : quiet1 E R0 S io = some v := by
            unfold quiet1
            split
            · rename_i hc; rw [hop] at hc; cases hc
            · rw [if_neg (by rw [hl]; simp), hi0]; rfl
          have hq2 : stepI E R0 S io = some v := by
            unfold stepI
            split
            · rename_i hc; rw [hop] at hc; cases hc
            · rw [if_neg (by rw [hl]; simp), hi nilH]; rfl
          cases q with
          | true => exact quiet rfl (by cases ind <;> simp [hq1, hq2]) hk
          | false => exact loud (H := S.hs) rfl (by unfold step1; rw [hq1]) hk
        split at h
        · rename_i a b ha hb
          split at h
          · unfold askB at h
            split at h
            · rename_i t ht
              cases t with
              | true => exact bin (by simp only [ha, hb, ht]) (h.1 rfl)
              | false => exact bin (by simp only [ha, hb, ht]) (h.2 rfl)
            · exact h.elim
          · split at h
            · rename_i v hv; exact bin (by simp only [ha, hb, hv]) h
            · exact h.elim
        · exact h.elim
      · obtain ⟨⟨hq, hi⟩, v, hv, hk⟩ := h
        exact quiet hq (by rw [hi]; exact hv) hk
      · rename_i hop
        obtain ⟨⟨hq, hi⟩, h⟩ := h
        exact ask hq hi (by rw [hop]; rfl) (by rw [hop]; exact fun _ _ => by simp) h
      · rename_i hop
        obtain ⟨⟨hq, hi⟩, h⟩ := h
        exact ask hq hi (by rw [hop]; rfl) (by rw [hop]; exact fun _ _ => by simp) h
      · rename_i hnb hnc _ _
        have q1 : loudOp io.op = false → quiet1 E R0 S io = (iop S io.op).map (·.1) := by
          intro hl
          unfold quiet1
          split
          · rename_i hc; exact absurd hc (hnc _ _)
          · rw [if_neg (by rw [hl]; simp)]
        have s1 : loudOp io.op = true → ∀ {v : AV} {S1 : AS}, iop S io.op = some (v, S1) → step1 P E R0 S io = some (v, S1.hs) := by
          intro hl v S1 hv
          unfold step1 quiet1 loud1
          split
          · rename_i v' hq
            split at hq
            · rename_i hc; exact absurd hc (hnc _ _)
            · rw [if_pos hl] at hq; cases hq
          · split
            · rename_i hc; exact absurd hc (hnc _ _)
            · rw [hv]
        split at h
        · rename_i hb
          simp only [Bool.and_eq_true, Bool.not_eq_true'] at hb
          obtain ⟨⟨hq, hi⟩, hl⟩ := hb
          have fin : ∀ {v : AV} {S1 : AS}, iop S io.op = some (v, S1) → wpS P E ios fl (S.put io.dst v) K → ∃ S', runS P E R0 (io :: ios) ((q, ind) :: fl) S = some S' ∧ K S' := by
            intro v S1 hv hk
            refine quiet hq ?_ hk
            rw [hi, if_neg (by simp), q1 hl, hv]; rfl
          split at h
          · obtain ⟨v, S1, hv, hk⟩ := h
            exact fin hv hk
          · unfold knownO at h
            split at h
            · rename_i v S1 hv; exact fin hv h
            · exact h.elim
        split at h
        · split at h
          · rename_i v hv; exact quiet rfl hv h
          · exact h.elim
        · obtain ⟨hl, h⟩ := h
          have fin : ∀ {v : AV} {S1 : AS}, iop S io.op = some (v, S1) → wpS P E ios fl (S1.put io.dst v) K → ∃ S', runS P E R0 (io :: ios) ((false, ind) :: fl) S = some S' ∧ K S' := by
            intro v S1 hv hk
            refine loud (H := S1.hs) rfl (s1 hl hv) ?_
            rw [← iop_same hv]; exact hk
          split at h
          · obtain ⟨v, S1, hv, hk⟩ := h
            exact fin hv hk
          · unfold knownO at h
            split at h
            · rename_i v S1 hv; exact fin hv h
            · exact h.elim
    · rename_i hw
      obtain ⟨S', h1, h2⟩ := wpS_run h
      exact ⟨S', by simp only [runS, hw]; exact h1, h2⟩
    · exact h.elim

theorem quiet_call {E : Env} {R : Rec} {S : AS} {io : Opr} {fa : Arg} {args : List Arg} {fid : FuncId} {first cap vs : List AV} {v : AV} (hop : io.op = .call fa args) (hf : S.arg fa = some (.fn fid first cap)) (ha : S.args args = some vs)
    (ho : E.orc fid ((first ++ vs ++ cap).map (S.view VD)) = some v) (hfl : flat v = true) : quiet1 E R S io = some v := by
  unfold quiet1
  split
  · rename_i fa' args' hop'
    rw [hop] at hop'
    injection hop' with e1 e2
    subst e1 e2
    simp only [hf, ha, pureOf, ho, hfl, or_true, if_true]
  · rename_i hn; exact absurd hop (hn _ _)

open Classical in
/-- Known calls, by a list. -/
noncomputable def lookL : List (FuncId × List AV × AV) → FuncId → List AV → Option AV
  | [], _, _ => none
  | (g, as, v) :: l, f, args => if g = f ∧ as = args then some v else lookL l f args

theorem lookL_ok {P : Program} : ∀ {l : List (FuncId × List AV × AV)}, (∀ x ∈ l, PF P x.1 x.2.1 x.2.2) → ∀ f args v, lookL l f args = some v → PF P f args v
  | [], _, f, args, v, h => by cases h
  | (g, as, u) :: l, hl, f, args, v, h => by
    simp only [lookL] at h
    split at h
    · rename_i hc
      obtain ⟨rfl, rfl⟩ := hc
      simp only [Option.some.injEq] at h; subst h
      exact hl _ (List.mem_cons_self ..)
    · exact lookL_ok (fun x hx => hl x (List.mem_cons_of_mem _ hx)) f args v h

theorem lookL_here {f : FuncId} {args : List AV} {v : AV} {l : List (FuncId × List AV × AV)} : lookL ((f, args, v) :: l) f args = some v := by simp [lookL]

theorem lookL_next {f g : FuncId} {args as : List AV} {v u : AV} {l : List (FuncId × List AV × AV)} (hn : g ≠ f) (h : lookL l f args = some v) : lookL ((g, as, u) :: l) f args = some v := by simp [lookL, hn, h]

section
variable {P : Program} {w0 w : World} {N0 : Nat} {S S' : AS} {rd : Option (Nat × Nat)} {E : Env}

/-- A drawn region that the text alone settles. -/
theorem WpT_drawn (hE : EnvOk P E) {ios : List Opr} {pres : List (List Nat)} {fl : List (Bool × Bool)} {K : Exit → AS → Prop} (hs : statD E ios pres S.size = some fl) (h : wpS P E ios fl S (K .normal)) : WpT P w0 N0 rd (.region ios (some pres)) S K := by
  obtain ⟨S', h1, h2⟩ := wpS_run h
  exact ⟨T_mono (T_stat hE R0_ok hs h1) fun e S1 ⟨e1, e2⟩ => by subst e1 e2; exact h2⟩

/-- A loop, round by round. -/
def Rounds (P : Program) (w0 : World) (N0 : Nat) (rd : Option (Nat × Nat)) (b : IC) (K : Exit → AS → Prop) : Nat → AS → Prop
  | 0, _ => False
  | n + 1, S => wpC P w0 N0 rd b S fun e S1 => match e with
    | .normal => Rounds P w0 N0 rd b K n S1
    | e => K e S1

theorem WpT_rounds {b : IC} {K : Exit → AS → Prop} (n : Nat) (h : Rounds P w0 N0 rd b K n S) : WpT P w0 N0 rd (.loop b) S K := by
  refine ⟨T_loop (Rounds P w0 N0 rd b K) h fun m S hS => ?_⟩
  cases m with
  | zero => exact hS.elim
  | succ m =>
    refine T_mono (T_wp hS) fun e S1 hk => ?_
    cases e with
    | normal => exact ⟨m, S1, Nat.lt_succ_self _, Sub.refl, hk⟩
    | _ => exact hk

theorem PF_args {f : FuncId} {as as' : List AV} {v : AV} (h : PF P f as' v) (ha : ∀ (w : World) (ro : Nat → Prop) us, CRel w ro none as us → CRel w ro none as' us) : PF P f as v :=
  ⟨h.1, fun ro w us hg hc => h.2 ro w us hg (ha w ro us hc)⟩

end
end Go.Am
