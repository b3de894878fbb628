/-
  MORE OF WHAT IS LEFT TO SHOW: drawn regions that run in the text's order, loops of a few rounds. A general base for proofs: no program is named here.
-/
import Derived.Test.YtclefndccgmolaaDoorAmWp
namespace Go.Am
open Go Go.RowKit

/-- Known calls by a function. -/
def Env.ask (E : Env) (o : FuncId → List AV → Option AV) (k : FuncId → Bool) : Env := { E with orc := o, pure := fun _ => false, known := k }

theorem EnvOk.ask {P : Program} {E : Env} (h : EnvOk P E) {o : FuncId → List AV → Option AV} {k : FuncId → Bool} (ho : ∀ f args v, o f args = some v → PF P f args v) : EnvOk P (E.ask o k) :=
  ⟨h.fn, ho, h.sum, h.mix⟩

def R0 : Rec := ⟨fun _ _ _ => none, fun _ _ _ => none⟩

theorem R0_ok {P : Program} : RecOk P R0 := ⟨fun _ _ _ _ _ h => (by cases h), fun _ _ _ _ _ h => (by cases h)⟩

def putS2 (dst : Option Nat) (S : AS) (K : AS → Prop) (v : AV) : Prop := K (S.put dst v)

/-- An operation of a drawn region that runs in the text's order. -/
def wpQ (P : Program) (E : Env) (q ind : Bool) (S : AS) (io : Opr) (K : AV → AS → Prop) : Prop :=
  match io.op with
  | .bin op x y => match S.arg x, S.arg y with
    | some a, some b => if isCmp op then askB (binOp op a b) (K · S) else match binOp op a b with
      | some v => K v S
      | none => False
    | _, _ => False
  | .call _ _ => (q = true ∧ ind = false) ∧ ∃ v, quiet1 E R0 S io = some v ∧ K v S
  | _ => match (q && !ind && !loudOp io.op) with
    | true => knownO (iop S io.op) fun v _ => K v S
    | false => match q with
      | true => match (if ind then stepI E R0 S io else quiet1 E R0 S io) with
        | some v => K v S
        | none => False
      | false => match step1 P E R0 S io with
        | some (v, H) => K v (S.withH H)
        | none => False

def wpS (P : Program) (E : Env) : List Opr → List (Bool × Bool) → AS → (AS → Prop) → Prop
  | [], [], S, K => K S
  | io :: ios, (q, ind) :: fl, S, K => match wantedA S io with
    | some true => wpQ P E q ind S io fun v S1 => wpS P E ios fl (S1.put io.dst v) K
    | some false => wpS P E ios fl (S.put io.dst (.tup [])) K
    | none => False
  | _, _, _, _ => False

theorem wpS_run {P : Program} {E : Env} : ∀ {ios : List Opr} {fl : List (Bool × Bool)} {S : AS} {K : AS → Prop}, wpS P E ios fl S K → ∃ S', runS P E R0 ios fl S = some S' ∧ K S'
  | [], [], S, K, h => ⟨S, rfl, h⟩
  | [], _ :: _, _, _, h => h.elim
  | _ :: _, [], _, _, h => h.elim
  | io :: ios, (q, ind) :: fl, S, K, h => by
    simp only [wpS] at h
    split at h
    · rename_i hw
      have quiet : ∀ {v : AV}, q = true → (if ind then stepI E R0 S io else quiet1 E R0 S io) = some v → wpS P E ios fl (S.put io.dst v) K → ∃ S', runS P E R0 (io :: ios) ((q, ind) :: fl) S = some S' ∧ K S' := by
        intro v hq hv hk
        obtain ⟨S', h1, h2⟩ := wpS_run hk
        refine ⟨S', ?_, h2⟩
        simp only [runS, hw, hq, if_true, hv]
        exact h1
      have loud : ∀ {v : AV} {H : HS}, q = false → step1 P E R0 S io = some (v, H) → wpS P E ios fl ((S.withH H).put io.dst v) K → ∃ S', runS P E R0 (io :: ios) ((q, ind) :: fl) S = some S' ∧ K S' := by
        intro v H hq hv hk
        obtain ⟨S', h1, h2⟩ := wpS_run hk
        refine ⟨S', ?_, h2⟩
        simp only [runS, hw, hq, Bool.false_eq_true, if_false, hv]
        exact h1
      unfold wpQ at h
      split at h
      · rename_i op x y hop
        have bin : ∀ {v : AV}, (match S.arg x, S.arg y with | some a, some b => binOp op a b | _, _ => none) = some v → wpS P E ios fl (S.put io.dst v) K → ∃ S', runS P E R0 (io :: ios) ((q, ind) :: fl) S = some S' ∧ K S' := by
          intro v hv hk
          have hi : ∀ H : HS, iop (S.withH H) io.op = some (v, S.withH H) := by
            intro H
            rw [hop]
            simp only [iop, arg_H]
            split at hv
            · rename_i a b ha hb; simp only [ha, hb, hv]; rfl
            · cases hv
          have hi0 := hi S.hs
          rw [AS.withH_hs] at hi0
          have hl : loudOp io.op = false := by rw [hop]; rfl
          have hq1 : quiet1 E R0 S io = some v := by
            unfold quiet1
            split
            · rename_i hc; rw [hop] at hc; cases hc
            · rw [if_neg (by rw [hl]; simp), hi0]; rfl
          have hq2 : stepI E R0 S io = some v := by
            unfold stepI
            split
            · rename_i hc; rw [hop] at hc; cases hc
            · rw [if_neg (by rw [hl]; simp), hi nilH]; rfl
          cases q with
          | true => exact quiet rfl (by cases ind <;> simp [hq1, hq2]) hk
          | false => exact loud (H := S.hs) rfl (by unfold step1; rw [hq1]) hk
        split at h
        · rename_i a b ha hb
          split at h
          · unfold askB at h
            split at h
            · rename_i t ht
              cases t with
              | true => exact bin (by simp only [ha, hb, ht]) (h.1 rfl)
              | false => exact bin (by simp only [ha, hb, ht]) (h.2 rfl)
            · exact h.elim
          · split at h
            · rename_i v hv; exact bin (by simp only [ha, hb, hv]) h
            · exact h.elim
        · exact h.elim
      · obtain ⟨⟨hq, hi⟩, v, hv, hk⟩ := h
        exact quiet hq (by rw [hi]; exact hv) hk
      · rename_i hnb hnc
        split at h
        · rename_i hb
          simp only [Bool.and_eq_true, Bool.not_eq_true'] at hb
          obtain ⟨⟨hq, hi⟩, hl⟩ := hb
          unfold knownO at h
          split at h
          · rename_i v S1 hv
            refine quiet hq ?_ h
            rw [hi, if_neg (by simp)]
            unfold quiet1
            split
            · rename_i hc; exact absurd hc (hnc _ _)
            · rw [if_neg (by rw [hl]; simp), hv]; rfl
          · exact h.elim
        split at h
        · split at h
          · rename_i v hv; exact quiet rfl hv h
          · exact h.elim
        · split at h
          · rename_i v H hv; exact loud rfl hv h
          · exact h.elim
    · rename_i hw
      obtain ⟨S', h1, h2⟩ := wpS_run h
      exact ⟨S', by simp only [runS, hw]; exact h1, h2⟩
    · exact h.elim

theorem quiet_call {E : Env} {R : Rec} {S : AS} {io : Opr} {fa : Arg} {args : List Arg} {fid : FuncId} {first cap vs : List AV} {v : AV} (hop : io.op = .call fa args) (hf : S.arg fa = some (.fn fid first cap)) (ha : S.args args = some vs)
    (ho : E.orc fid ((first ++ vs ++ cap).map (S.view VD)) = some v) (hfl : flat v = true) : quiet1 E R S io = some v := by
  unfold quiet1
  split
  · rename_i fa' args' hop'
    rw [hop] at hop'
    injection hop' with e1 e2
    subst e1 e2
    simp only [hf, ha, pureOf, ho, hfl, or_true, if_true]
  · rename_i hn; exact absurd hop (hn _ _)

open Classical in
/-- Known calls, by a list. -/
noncomputable def lookL : List (FuncId × List AV × AV) → FuncId → List AV → Option AV
  | [], _, _ => none
  | (g, as, v) :: l, f, args => if g = f ∧ as = args then some v else lookL l f args

theorem lookL_ok {P : Program} : ∀ {l : List (FuncId × List AV × AV)}, (∀ x ∈ l, PF P x.1 x.2.1 x.2.2) → ∀ f args v, lookL l f args = some v → PF P f args v
  | [], _, f, args, v, h => by cases h
  | (g, as, u) :: l, hl, f, args, v, h => by
    simp only [lookL] at h
    split at h
    · rename_i hc
      obtain ⟨rfl, rfl⟩ := hc
      simp only [Option.some.injEq] at h; subst h
      exact hl _ (List.mem_cons_self ..)
    · exact lookL_ok (fun x hx => hl x (List.mem_cons_of_mem _ hx)) f args v h

theorem lookL_here {f : FuncId} {args : List AV} {v : AV} {l : List (FuncId × List AV × AV)} : lookL ((f, args, v) :: l) f args = some v := by simp [lookL]

theorem lookL_next {f g : FuncId} {args as : List AV} {v u : AV} {l : List (FuncId × List AV × AV)} (hn : g ≠ f) (h : lookL l f args = some v) : lookL ((g, as, u) :: l) f args = some v := by simp [lookL, hn, h]

section
variable {P : Program} {w0 w : World} {N0 : Nat} {S S' : AS} {rd : Option (Nat × Nat)} {E : Env}

/-- A drawn region that the text alone settles. -/
theorem WpT_drawn (hE : EnvOk P E) {ios : List Opr} {pres : List (List Nat)} {fl : List (Bool × Bool)} {K : Exit → AS → Prop} (hs : statD E ios pres S.size = some fl) (h : wpS P E ios fl S (K .normal)) : WpT P w0 N0 rd (.region ios (some pres)) S K := by
  obtain ⟨S', h1, h2⟩ := wpS_run h
  exact ⟨T_mono (T_stat hE R0_ok hs h1) fun e S1 ⟨e1, e2⟩ => by subst e1 e2; exact h2⟩

/-- A loop, round by round. -/
def Rounds (P : Program) (w0 : World) (N0 : Nat) (rd : Option (Nat × Nat)) (b : IC) (K : Exit → AS → Prop) : Nat → AS → Prop
  | 0, _ => False
  | n + 1, S => wpC P w0 N0 rd b S fun e S1 => match e with
    | .normal => Rounds P w0 N0 rd b K n S1
    | e => K e S1

theorem WpT_rounds {b : IC} {K : Exit → AS → Prop} (n : Nat) (h : Rounds P w0 N0 rd b K n S) : WpT P w0 N0 rd (.loop b) S K := by
  refine ⟨T_loop (Rounds P w0 N0 rd b K) h fun m S hS => ?_⟩
  cases m with
  | zero => exact hS.elim
  | succ m =>
    refine T_mono (T_wp hS) fun e S1 hk => ?_
    cases e with
    | normal => exact ⟨m, S1, Nat.lt_succ_self _, Sub.refl, hk⟩
    | _ => exact hk

theorem PF_args {f : FuncId} {as as' : List AV} {v : AV} (h : PF P f as' v) (ha : ∀ (w : World) (ro : Nat → Prop) us, CRel w ro none as us → CRel w ro none as' us) : PF P f as v :=
  ⟨h.1, fun ro w us hg hc => h.2 ro w us hg (ha w ro us hc)⟩

end
end Go.Am
