/-
  A FUNCTION's CONTRACT OUT OF ITS BODY. A general base for proofs: no program is named here.
-/
import Derived.Test.YtclefndccgmolaaDoorAmOrd
namespace Go.Am
open Go Go.RowKit

inductive RA where
  | t (n : Nat)
  | cell (n : Nat) (agg : Option Nat)

def comRes (P : Program) : List ResultVar → Option (List RA)
  | [] => some []
  | .tmp t :: l => (comRes P l).map (.t t :: ·)
  | .cell a t :: l => match aggOf P t, comRes P l with
    | some g, some r => some (.cell a g :: r)
    | _, _ => none

def loadA (g : Option Nat) (cs : List AV) : Option AV :=
  match g with
  | some n => if n ≤ cs.length then some (.agg (cs.take n)) else none
  | none => match cs with
    | x :: _ => some x
    | [] => none

def AS.resL (S : AS) : List RA → Option (List AV)
  | [] => some []
  | .t n :: l => match S.get n, S.resL l with
    | some v, some r => some (v :: r)
    | _, _ => none
  | .cell n g :: l => match S.get n, S.resL l with
    | some p, some r => match S.deref p with
      | some cs => (loadA g cs).map (· :: r)
      | none => none
    | _, _ => none

def AS.res (S : AS) (l : List RA) : Option AV :=
  match S.resL l with
  | some [v] => some v
  | some vs => some (.tup vs)
  | none => none

def enum (k : Nat) : List AV → TM
  | [] => .nil
  | v :: l => putT k v (enum (k + 1) l)

theorem look_enum : ∀ (l : List AV) (k i : Nat) (v : AV), lookT i (enum k l) = some v → k ≤ i ∧ l[i - k]? = some v
  | [], k, i, v, h => by simp [enum, lookT_nil] at h
  | x :: l, k, i, v, h => by
    simp only [enum, lookT_putT] at h
    by_cases hk : k = i
    · subst hk; rw [if_pos rfl] at h; exact ⟨Nat.le_refl _, by simpa using h⟩
    · rw [if_neg hk] at h
      obtain ⟨h1, h2⟩ := look_enum l (k + 1) i v h
      refine ⟨by omega, ?_⟩
      rw [show i - k = (i - (k + 1)) + 1 from by omega]
      simpa using h2

def AS.enter (n : Nat) (args : List AV) (H : HS) : AS := ⟨n, enum 0 args, H.heap, H.next, H.clk, []⟩

def dropAll (ms : List (Nat × Nat)) (hp : List (Nat × Nat × AObj)) : List (Nat × Nat × AObj) := ms.foldl (fun h m => dropl m.1 h) hp

def AS.leave (S : AS) : AS := { S with heap := dropAll S.marks S.heap, marks := [] }

section
variable {P : Program} {w0 w : World} {N0 : Nat} {I : LI} {S S' : AS} {a : Act}

theorem rn_load (h : HRel w0 N0 I S.heap S.next w) {t : TypeId} {g : Option Nat} {p v : AV} {u : Value} {cs : List AV} (hg : aggOf P t = some g) (hp : VRel w I.ro (some I) p u) (hd : S.deref p = some cs) (hl : loadA g cs = some v) :
    ∃ x y, u = .pointer (some x) ∧ (loadVar t x).run P w = .ok y w ∧ VRel w I.ro (some I) v y := by
  obtain ⟨b, o, hu, hc⟩ := deref_rel h hp hd
  obtain ⟨g1, g2⟩ := rn_agg hg w
  refine ⟨⟨b, o, none⟩, ?_⟩
  unfold loadA at hl
  split at hl
  · rename_i n
    split at hl
    · rename_i hle
      simp only [Option.some.injEq] at hl; subst hl
      have key : ∀ j, j < n → w.cell? ((⟨b, o, none⟩ : Addr).add j) = some ((w.cell? ⟨b, o + j, none⟩).getD undef) := by
        intro j hj
        obtain ⟨y, hy, _⟩ := hc j cs[j] (by simp [show j < cs.length by omega])
        rw [add_none, hy]; rfl
      have rl := run_loadCells (P := P) w ⟨b, o, none⟩ n (fun j => (w.cell? ⟨b, o + j, none⟩).getD undef) key
      refine ⟨.agg ((List.range n).map fun j => (w.cell? ⟨b, o + j, none⟩).getD undef).toArray, hu, by simp [loadVar, g1, rn_size (g2 n rfl) w, rl], ?_⟩
      refine .agg (by simp; omega) fun i x hx => ?_
      have hi : i < n := by have := (List.getElem?_eq_some_iff.1 hx).1; simp at this; omega
      rw [List.getElem?_take_of_lt hi] at hx
      obtain ⟨y, hy, hxy⟩ := hc i x hx
      have : ((List.range n).map fun j => (w.cell? ⟨b, o + j, none⟩).getD undef).toArray.getD i undef = y := by
        simp [Array.getD_eq_getD_getElem?, hi, hy]
      rw [this]; exact hxy
    · cases hl
  · split at hl
    · rename_i x xs
      simp only [Option.some.injEq] at hl; subst hl
      obtain ⟨y, hy, hxy⟩ := hc 0 _ rfl
      simp only [Nat.add_zero] at hy
      exact ⟨y, hu, by simp [loadVar, g1, run_load, hy], hxy⟩
    · cases hl

def resOne (tmps : Array Value) : ResultVar → Sem Value
  | .tmp t => pure (tmps.getD t undef)
  | .cell a t => do loadVar t (← asAddr (tmps.getD a undef))

theorem results_eq (fn : Func) (tmps : Array Value) : results fn tmps = (do let vs ← fn.results.mapM (resOne tmps); pure (if h : vs.size = 1 then vs[0] else .tuple vs)) := by
  unfold results
  congr 1

theorem resL_rel (h : Rel w0 N0 I S a w) : ∀ (l : List ResultVar) (ras : List RA) (vs : List AV), comRes P l = some ras → S.resL ras = some vs →
    ∃ us : List Value, (l.mapM (m := Sem) (resOne a.tmps)).run P w = .ok us w ∧ us.length = vs.length ∧
      ∀ (i : Nat) (v : AV), vs[i]? = some v → ∃ u, us[i]? = some u ∧ VRel w I.ro (some I) v u
  | [], ras, vs, h1, h2 => by
    simp [comRes] at h1; subst h1
    simp [AS.resL] at h2; subst h2
    exact ⟨[], by simp, rfl, by simp⟩
  | .tmp t :: l, ras, vs, h1, h2 => by
    simp only [comRes, Option.map_eq_some_iff] at h1
    obtain ⟨r, hr, rfl⟩ := h1
    simp only [AS.resL] at h2
    split at h2
    · rename_i v rs hv hrs
      simp only [Option.some.injEq] at h2; subst h2
      obtain ⟨us, e1, e2, e3⟩ := resL_rel h l r rs hr hrs
      refine ⟨a.tmps.getD t undef :: us, ?_, by simp [e2], fun i x hx => ?_⟩
      · simp only [List.mapM_cons, Sem.run_bind, resOne, Sem.run_pure, Result.andThen_ok, e1]
      · cases i with
        | zero => simp at hx; subst hx; exact ⟨_, rfl, h.tmps.2 t v hv⟩
        | succ i => simpa using e3 i x (by simpa using hx)
    · cases h2
  | .cell x t :: l, ras, vs, h1, h2 => by
    simp only [comRes] at h1
    split at h1
    · rename_i g r hg hr
      simp only [Option.some.injEq] at h1; subst h1
      simp only [AS.resL] at h2
      split at h2
      · rename_i p rs hp hrs
        split at h2
        · rename_i cs hcs
          simp only [Option.map_eq_some_iff] at h2
          obtain ⟨v, hv, rfl⟩ := h2
          obtain ⟨us, e1, e2, e3⟩ := resL_rel h l r rs hr hrs
          obtain ⟨ad, y, k1, k2, k3⟩ := rn_load h.hrel hg (h.tmps.2 x p hp) hcs hv
          refine ⟨y :: us, ?_, by simp [e2], fun i z hz => ?_⟩
          · simp only [List.mapM_cons, Sem.run_bind, resOne, k1, asAddr, Sem.run_pure, Result.andThen_ok, k2, e1]
          · cases i with
            | zero => simp at hz; subst hz; exact ⟨_, rfl, k3⟩
            | succ i => simpa using e3 i z (by simpa using hz)
        · cases h2
      · cases h2
    · cases h1

theorem res_rel (h : Rel w0 N0 I S a w) {fn : Func} {ras : List RA} {v : AV} (hc : comRes P fn.results.toList = some ras) (hr : S.res ras = some v) : ∃ u, (results fn a.tmps).run P w = .ok u w ∧ VRel w I.ro (some I) v u := by
  unfold AS.res at hr
  cases hl : S.resL ras with
  | none => simp [hl] at hr
  | some vs =>
    obtain ⟨us, e1, e2, e3⟩ := resL_rel h _ _ _ hc hl
    have run : (results fn a.tmps).run P w = .ok (if h : us.toArray.size = 1 then us.toArray[0] else .tuple us.toArray) w := by
      rw [results_eq, Array.mapM_eq_mapM_toList]
      simp only [Sem.run_bind, Sem.run_map, e1, Result.andThen_ok, Sem.run_pure]
    rw [hl] at hr
    refine ⟨_, run, ?_⟩
    cases vs with
    | nil =>
      simp only [Option.some.injEq] at hr; subst hr
      obtain rfl : us = [] := by simpa using e2
      simp; exact .tup rfl (by simp)
    | cons x xs =>
      cases xs with
      | nil =>
        simp only [Option.some.injEq] at hr; subst hr
        cases us with
        | nil => simp at e2
        | cons y ys =>
          obtain rfl : ys = [] := by simpa using e2
          obtain ⟨u, hu, hv⟩ := e3 0 _ rfl
          simp at hu; subst hu
          simpa using hv
      | cons x2 xs =>
        simp only [Option.some.injEq] at hr; subst hr
        have hne : ¬ (us.toArray.size = 1) := by simp [e2]
        rw [dif_neg hne]
        refine .tup (by simp [e2]) fun i z hz => ?_
        obtain ⟨u, hu, hv⟩ := e3 i z hz
        simpa [Array.getD_eq_getD_getElem?, hu] using hv

/-- A mark is taken: its block is shut and forgotten. -/
theorem take_mark (h : HRel w0 N0 I S.heap S.next w) {id st b base n : Nat} (hl : look id S.heap = some (st, .deferred)) (hloc : I.loc id st = some (.at b base n)) :
    (Instr.takeDeferred b).run P w = .ok [] (w.putObj b (.deferred none)) ∧ HRel w0 N0 (I.drop id) (dropl id S.heap) S.next (w.putObj b (.deferred none)) ∧ Evo I w (I.drop id) (w.putObj b (.deferred none)) := by
  obtain ⟨_, l, hl', hol⟩ := h.heap _ _ _ hl
  rw [hloc] at hl'; injection hl' with hl'; subst hl'
  have hb : w.heap[b]? = some (.deferred (some [])) := hol
  have hN := h.fresh _ _ _ _ _ hloc
  have hbelow : Below N0 w (w.putObj b (.deferred none)) := ⟨rfl, rfl, rfl, by simp, fun k hk => World.putObj_heap_other (by omega)⟩
  have hE : Evo I w (I.drop id) (w.putObj b (.deferred none)) := by
    have e := Evo.drop I w id
    refine ⟨e.clk, e.loc, fun b' i x hr hc => ⟨(e.ro b' i x hr hc).1, ?_⟩, e.ok⟩
    have hne : b' ≠ b := by
      intro e2; subst e2
      simp [World.cell?, hb] at hc
    rw [cell?_of_heap (World.putObj_heap_other hne)]; exact hc
  refine ⟨run_takeDeferred hb, ?_, hE⟩
  have hd := h.drop id
  refine ⟨hd.below.trans hbelow, hd.base, fun i st' o hi => ?_, hd.locs, hd.inj, hd.fresh, hd.free, hd.okN, h.glob.mono hE.ro⟩
  rw [look_dropl] at hi
  by_cases hii : id = i
  · rw [if_pos hii] at hi; cases hi
  · rw [if_neg hii] at hi
    obtain ⟨hs, l, hl2, hol2⟩ := h.heap i st' o hi
    have hne : i ≠ id := fun e => hii e.symm
    refine ⟨hs, l, by simp [LI.drop, hne, hl2], hol2.evo hE fun b2 base2 n2 e => ?_⟩
    subst e
    refine World.putObj_heap_other fun e => hne ?_
    subst e
    exact h.inj _ _ _ _ _ _ _ _ _ hl2 hloc

theorem dropAll_cons (m : Nat × Nat) (ms : List (Nat × Nat)) (hp : List (Nat × Nat × AObj)) : dropAll (m :: ms) hp = dropAll ms (dropl m.1 hp) := rfl

/-- The activation's marks are taken, one after the other. -/
theorem leave_all {r : Option Nat} {n : Nat} {fn : Func} {R : Ending → World → Prop} {next size : Nat} {tmps : TM} {ts : Array Value} : ∀ (marks : List (Nat × Nat)) (ds : List Deferred) (I : LI) (w : World) (hp : List (Nat × Nat × AObj)),
    HRel w0 N0 I hp next w → DRel I hp marks ds → TRel w I.ro (some I) size tmps ts →
    (∀ I' w', HRel w0 N0 I' (dropAll marks hp) next w' → TRel w' I'.ro (some I') size tmps ts → Evo I w I' w' → I'.clk = I.clk → LeavesInM (Wd r) n P fn ts R [] .returning w') → LeavesInM (Wd r) n P fn ts R ds .returning w := by
  intro marks
  induction marks with
  | nil =>
    intro ds I w hp h hd ht hk
    obtain rfl : ds = [] := by simpa using hd.1
    exact hk I w h ht (Evo.refl I w) rfl
  | cons m marks ih =>
    intro ds I w hp h hd ht hk
    cases ds with
    | nil => have := hd.1; simp at this
    | cons d ds =>
      obtain ⟨h1, b, base, nn, h2, rfl⟩ := hd.2.1 0 m.1 m.2 d rfl rfl
      have tk := take_mark (P := P) (S := ⟨size, tmps, hp, next, 0, []⟩) h h1 h2
      obtain ⟨t1, t2, t3⟩ := tk
      refine ⟨by simp, .inl ⟨b, _, rfl, t1, ?_⟩⟩
      have hnd := hd.2.2
      simp only [List.map_cons, List.nodup_cons] at hnd
      refine ih ds (I.drop m.1) _ (dropl m.1 hp) t2 ⟨by have := hd.1; simpa using this, fun i id st d h3 h4 => ?_, hnd.2⟩ (ht.evo t3) fun I' w' a1 a2 a3 a4 => hk I' w' a1 a2 (t3.trans a3) a4
      obtain ⟨k1, b', base', n', k2, k3⟩ := hd.2.1 (i + 1) id st d (by simpa using h3) (by simpa using h4)
      have hne : m.1 ≠ id := by
        intro e
        exact hnd.1 (List.mem_map.2 ⟨(id, st), List.mem_of_getElem? h3, e.symm⟩)
      refine ⟨by rw [look_dropl, if_neg hne]; exact k1, b', base', n', ?_, k3⟩
      simp only [LI.drop]
      rw [if_neg (fun e => hne e.symm)]
      exact k2

/-- **A FUNCTION's CONTRACT OUT OF ITS BODY.** -/
theorem FT_of_T {f : FuncId} {fn : Func} {code : Code} {ic : IC} {ras : List RA} {args : List AV} {H : HS} {Q : AV → HS → Prop} (hf : P.funcs[f]? = some fn) (hb : fn.body = some code) (hc : comC P code = some ic) (he : Ent P f)
    (hn : args.length ≤ fn.ntmps) (hres : comRes P fn.results.toList = some ras)
    (h : T P w0 N0 none ic (AS.enter fn.ntmps args H) (fun e S' => (e = .normal ∨ e = .ret) ∧ ∃ v, S'.leave.res ras = some v ∧ Q v S'.leave.hs)) : FT P w0 N0 f args H Q := by
  refine ⟨he, fun I w us hH hclk hargs => ?_⟩
  refine calls_of_wd (r := none) (n := 0) (callsIn_of_wp_marks hf hb (Wd_fn none f) ?_ rfl)
  have hR : Rel w0 N0 I (AS.enter fn.ntmps args H) { tmps := us ++ Array.replicate (fn.ntmps - us.size) undef, defers := [] } w := by
    refine ⟨hclk, ⟨?_, fun i v hv => ?_⟩, hH, ⟨rfl, fun i id st d e => by simp [AS.enter] at e, by simp [AS.enter]⟩⟩
    · simp [AS.enter]; have := hargs.1; omega
    · obtain ⟨_, hv⟩ := look_enum _ _ _ _ hv
      simp only [Nat.sub_zero] at hv
      have hlt : i < us.size := by rw [hargs.1]; exact (List.getElem?_eq_some_iff.1 hv).1
      have : (us ++ Array.replicate (fn.ntmps - us.size) undef).getD i undef = us.getD i undef := by
        simp only [Array.getD_eq_getD_getElem?]
        rw [Array.getElem?_append_left hlt]
      simp only
      rw [this]
      exact hargs.2 i v hv
  refine wpIn_mono (h code (com_of hc) 0 I _ w none hR trivial) fun e a' w' ⟨I', S', ⟨hex, v, hv, hq⟩, hR', hE⟩ => ?_
  have fin : LeavesInM (Wd none) 0 P fn a'.tmps (fun e w' => ∃ u v H' I', e = .returned u ∧ Q v H' ∧ HRel w0 N0 I' H'.heap H'.next w' ∧ I'.clk = H'.clk ∧ VRel w' I'.ro (some I') v u ∧ Evo I w I' w') a'.defers .returning w' := by
    refine leave_all S'.marks a'.defers I' w' S'.heap hR'.hrel hR'.marks hR'.tmps fun I'' w'' k1 k2 k3 k4 => ?_
    have hR'' : Rel w0 N0 I'' S'.leave { tmps := a'.tmps, defers := [] } w'' := ⟨by rw [k4]; exact hR'.clk, k2, k1, ⟨rfl, fun i id st d e => by simp [AS.leave] at e, by simp [AS.leave]⟩⟩
    obtain ⟨u, r1, r2⟩ := res_rel hR'' hres hv
    exact ⟨u, r1, u, v, _, I'', rfl, hq, k1, hR''.clk, r2, hE.trans k3⟩
  rcases hex with rfl | rfl
  · exact fin
  · exact fin

/-- A contract with a weaker end. -/
theorem FT.mono {f : FuncId} {args : List AV} {H : HS} {Q Q' : AV → HS → Prop} (h : FT P w0 N0 f args H Q) (hq : ∀ v H, Q v H → Q' v H) : FT P w0 N0 f args H Q' :=
  ⟨h.1, fun I w us a b c => (h.2 I w us a b c).mono fun _ _ ⟨u, v, H', I', h1, h2, h3⟩ => ⟨u, v, H', I', h1, hq v H' h2, h3⟩⟩

/-- **A CALL THAT ONLY COMPUTES, OUT OF ITS CONTRACT AT AN EMPTY HEAP.** -/
theorem PF_of_FT {f : FuncId} {args : List AV} {v : AV} (h : ∀ w0 N0, FT P w0 N0 f args ⟨[], 0, 0⟩ (fun v0 H' => (⟨0, .nil, H'.heap, H'.next, H'.clk, []⟩ : AS).view VD v0 = v)) : PF P f args v := by
  refine ⟨(h default 0).1, fun ro w us hglob hargs => ?_⟩
  let I : LI := { loc := fun _ _ => none, clk := 0, ok := fun b => ro b ∨ w.heap.size ≤ b }
  have hro : ∀ b, ro b → I.ro b := fun b hb => ⟨.inl hb, fun id st base n hl => by cases hl⟩
  have hH : HRel w w.heap.size I [] 0 w := by
    refine ⟨Below.refl _ _, Nat.le_refl _, ?_, ?_, ?_, ?_, ?_, ?_, hglob.mono fun b i x hb hc => ⟨hro b hb, hc⟩⟩
    · intro id st o e; simp [look_nil] at e
    · intro id st l e; cases e
    · intro id st b base n id' st' base' n' e; cases e
    · intro id st b base n e; cases e
    · intro id _; rfl
    · intro b hb; exact .inr hb
  refine ((h w w.heap.size).2 I w us hH rfl ⟨hargs.1, fun i x hx => (hargs.2 i x hx).mono (fun b i x hb hc => ⟨hro b hb, hc⟩) trivial⟩).mono fun e w' ⟨u, v0, H', I', h1, h2, h3, h4, h5, h6⟩ => ?_
  refine ⟨u, h1, h3.below, ?_⟩
  have := view_rel (S := ⟨0, .nil, H'.heap, H'.next, H'.clk, []⟩) h3 VD h5
  rw [h2, h6.ok] at this
  exact this

end
end Go.Am
