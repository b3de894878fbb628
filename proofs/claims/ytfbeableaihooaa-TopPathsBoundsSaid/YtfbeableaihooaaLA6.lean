/-
  AN ABSTRACT MACHINE FOR PROOFS, PART 6. A general base for proofs: no program is named here.
-/
import Derived.Test.YtfbeableaihooaaLA5
namespace Go.Am
open Go Go.RowKit
def fnOf (P : Program) (fn : Func) : Option FnI :=
 match fn.body with
 | some code => match zfy P code, zeq P fn.results.toList with
  | some ic, some ras => if fn.name == "runtime.NumGoroutine" then none else some ⟨fn.ntmps, ic, ras⟩
  | _, _ => none
 | none => none
def envOf (P : Program) (fuel : Nat) : Env :=
 ⟨fun f => match P.funcs[f]? with
  | some fn => fnOf P fn
  | none => none, fun _ _ => none, fun _ _ _ => none, fun _ => false, fun _ => false, fuel⟩
theorem zso {P : Program} {f : FuncId} {fn : Func} {code : Code} (hf : P.funcs[f]? = some fn) (hb : fn.body = some code) (hn : (fn.name == "runtime.NumGoroutine") = false) : Ent P f := by
 intro args w
 unfold callFunc
 have hp : (program : Sem Program).run P w = .ok P w := rfl
 simp only [Sem.run_bind, hp, Result.andThen_ok, hf]
 rw [if_neg (by rw [hn]; simp), if_neg (by rw [hb]; simp)]
 rfl
theorem fnOf_ok {P : Program} {f : FuncId} {fn : Func} {i : FnI} (hf : P.funcs[f]? = some fn) (h : fnOf P fn = some i) :
  ∃ fn code, P.funcs[f]? = some fn ∧ fn.body = some code ∧ zfy P code = some i.ic ∧ fn.ntmps = i.size ∧ zeq P fn.results.toList = some i.res ∧ Ent P f := by
 unfold fnOf at h
 split at h <;> try cases h
 rename_i code hc
 split at h <;> try cases h
 rename_i ic ras h1 h2
 split at h <;> try cases h
 rename_i hn
 exact ⟨fn, code, hf, hc, h1, rfl, h2, zso hf hc (by simpa using hn)⟩
theorem envOf_ok {P : Program} (fuel : Nat) (hm : P.follows .mixedOrders = true) : EnvOk P (envOf P fuel) := by
 refine ⟨fun f i h => ?_, fun f args v h => (by cases h), fun f args H v H' h => (by cases h), hm⟩
 simp only [envOf] at h
 split at h
 ·rename_i fn hf; exact fnOf_ok hf h
 ·cases h
def tabO : List (FuncId × List AV × AV) → FuncId → List AV → Option AV
 | [], _, _ => none
 | (g, as, v) :: l, f, args => if Nat.beq g f then (if zmx as args then some v else tabO l f args) else tabO l f args
theorem zv3 {P : Program} : ∀ {l : List (FuncId × List AV × AV)}, (∀ x ∈ l, PF P x.1 x.2.1 x.2.2) → ∀ {f : FuncId} {args : List AV} {v : AV}, tabO l f args = some v → PF P f args v
 | [], _, f, args, v, h => by simp [tabO] at h
 | (g, as, u) :: l, hl, f, args, v, h => by
  have ih := fun h => zv3 (fun x hx => hl x (y04 _ hx)) (f := f) (args := args) (v := v) h
  simp only [tabO] at h
  split at h
  ·rename_i h1
   split at h
   ·rename_i h2
    simp only [y00] at h; subst h
    have e1 : g = f := y0m h1
    have e2 := zbx _ _ h2
    subst e1 e2
    exact hl _ (y06 ..)
   ·exact ih h
  ·exact ih h
def Env.with (E : Env) (l : List (FuncId × List AV × AV)) (pure : List Nat) : Env := { E with orc := tabO l, pure := fun f => pure.any (Nat.beq f), known := fun f => pure.any (Nat.beq f) || l.any fun x => Nat.beq x.1 f }
theorem EnvOk.with {P : Program} {E : Env} (h : EnvOk P E) {l : List (FuncId × List AV × AV)} {pure : List Nat} (hl : ∀ x ∈ l, PF P x.1 x.2.1 x.2.2) : EnvOk P (E.with l pure) :=
 ⟨h.fn, fun _ _ _ e => zv3 hl e, h.sum, h.mix⟩
def zoj (P : Program) (E : Env) (n : Nat) (f : FuncId) (args : List AV) (v : AV) : Bool :=
 match (lvl P E n).f f args ⟨[], 0, 0⟩ with
 | some (v0, H) => AV.beq ((⟨0, .nil, H.heap, H.next, H.clk, []⟩ : AS).view VD v0) v
 | none => false
theorem zlg {P : Program} {E : Env} (hE : EnvOk P E) {n : Nat} {f : FuncId} {args : List AV} {v : AV} (h : zoj P E n f args v = true) : PF P f args v := by
 unfold zoj at h
 split at h
 ·rename_i v0 H hr
  refine zoa fun w0 N0 => ((lvl_ok hE n).1 _ _ _ _ _ hr w0 N0).mono fun v1 H1 ⟨e1, e2⟩ => ?_
  subst e1 e2
  exact AV.eq_of_beq _ _ h
 ·cases h
noncomputable section
def setV (o : Option AV) (t : TM) : TM := TM.rec (motive := fun _ => TM) (.nd o .nil .nil) (fun _ l r _ _ => .nd o l r) t
def setL (ih : TM → TM) (t : TM) : TM := TM.rec (motive := fun _ => TM) (.nd none (ih .nil) .nil) (fun v l r _ _ => .nd v (ih l) r) t
def setR (ih : TM → TM) (t : TM) : TM := TM.rec (motive := fun _ => TM) (.nd none .nil (ih .nil)) (fun v l r _ _ => .nd v l (ih r)) t
def zqv (o : Option AV) (p : List Bool) : TM → TM := List.rec (motive := fun _ => TM → TM) (setV o) (fun b _ ih => Bool.rec (motive := fun _ => TM → TM) (setL ih) (setR ih) b) p
theorem setPK_eq (o : Option AV) (p : List Bool) : zqv o p = TM.setP o p := by
 induction p with
 | nil => funext t; cases t <;> rfl
 | cons b p ih =>
  show Bool.rec (motive := fun _ => TM → TM) (setL (zqv o p)) (setR (zqv o p)) b = zuw b (TM.setP o p)
  rw [ih]
  funext t
  cases b <;> cases t <;> rfl
def putK (dst : Option Nat) : AV → AS → AS := match dst with
 | some d => fun v S => ⟨S.size, zqv (some v) (zez d) S.tmps, S.heap, S.next, S.clk, S.marks⟩
 | none => fun _ S => S
theorem zug (dst : Option Nat) (v : AV) (S : AS) : putK dst v S = S.put dst v := by
 cases dst with
 | none => rfl
 | some d => simp only [putK, AS.put, setPK_eq]; rfl
def zu8 (dst : Option Nat) : Nat → Bool := match dst with
 | some d => Nat.ble (Nat.succ d)
 | none => fun _ => true
theorem zu9 (dst : Option Nat) (n : Nat) : zu8 dst n = zbt n dst := by
 cases dst with
 | none => rfl
 | some d => simp only [zu8, zbt]; rw [y2i, Nat.ble_eq, decide_eq_true_iff]; exact Iff.rfl
abbrev KS := AV → AS → Option AS
def putS (d : Nat) (ih : AS → Option AS) (v : AV) (S : AS) : Option AS :=
 AS.rec (motive := fun _ => Option AS) (fun size tmps heap next clk marks => Bool.rec (motive := fun _ => Option AS) none (ih ⟨size, zqv (some v) (zez d) tmps, heap, next, clk, marks⟩) (Nat.ble (Nat.succ d) size)) S
def putN (ih : AS → Option AS) (_ : AV) (S : AS) : Option AS := ih S
def putC (dst : Option Nat) : (AS → Option AS) → KS := Option.rec (motive := fun _ => (AS → Option AS) → KS) putN putS dst
theorem zuf (dst : Option Nat) (ih : AS → Option AS) (v : AV) (S : AS) : putC dst ih v S = if zbt S.size dst then ih (S.put dst v) else none := by
 cases dst with
 | none => rfl
 | some d =>
  obtain ⟨size, tmps, heap, next, clk, marks⟩ := S
  show Bool.rec (motive := fun _ => Option AS) none (ih (putK (some d) v ⟨size, tmps, heap, next, clk, marks⟩)) (zu8 (some d) size) = _
  rw [zu9, zug]
  cases zbt size (some d) <;> rfl
def zvc (k : KS) (o : Option (AV × AS)) : Option AS := Option.rec (motive := fun _ => Option AS) none (fun x => Prod.rec (motive := fun _ => Option AS) (fun v S1 => k v S1) x) o
abbrev Arm := Program → Env → Rec → KS → AS → Option AS
def zbe (f : AS → Option (AV × AS)) (_ : Program) (_ : Env) (_ : Rec) (k : KS) (S : AS) : Option AS := zvc k (f S)
def zu2 (k : KS) (S : AS) (v : AV) (H : HS) : Option AS := match S with
 | ⟨size, tmps, _, _, _, marks⟩ => match H with
  | ⟨heap, next, clk⟩ => cond (zg6 marks heap) (k v ⟨size, tmps, heap, next, clk, marks⟩) none
def callK2 (k : KS) (S : AS) : Option (AV × HS) → Option AS
 | some (v, H) => zu2 k S v H
 | none => none
def callK1 (P : Program) (R : Rec) (k : KS) (S : AS) (fv : AV) (vs : List AV) : Option AV → Option AS
 | some v => k v S
 | none => callK2 k S (zs3 P R fv vs S.hs)
def callK (P : Program) (E : Env) (R : Rec) (k : KS) (S : AS) (fv : AV) (vs : List AV) : Option AS := callK1 P R k S fv vs (zd5 E R S fv vs)
def zjz (P : Program) (E : Env) (R : Rec) (k : KS) (S : AS) (vs : Option (List AV)) : Option AV → Option AS
 | some fv => match vs with
  | some vs => callK P E R k S fv vs
  | none => none
 | none => none
def wrapC (fa : Arg) (args : List Arg) (P : Program) (E : Env) (R : Rec) (k : KS) (S : AS) : Option AS := zjz P E R k S (zln S args) (zcb S fa)
def opK (op : IOp) : Arm := IOp.rec (motive := fun _ => Arm)
 (fun a => zbe (i_mov a))
 (fun a b c => zbe (ztk a b c))
 (fun a => zbe (znh a))
 (fun a => zbe (i_box a))
 (fun a b => zbe (zni a b))
 (fun a b c d => zbe (zkh a b c d))
 (fun a b => zbe (ztg a b))
 (fun a b c => zbe (znq a b c))
 (fun a => zbe (zko a))
 (fun a b c => zbe (i_bin a b c))
 (fun a b c => zbe (i_eqb a b c))
 (fun a b c d => zbe (i_eqs a b c d))
 (fun a b => zbe (i_un a b))
 (fun a b => zbe (ztc a b))
 (fun a b c => zbe (zth a b c))
 (fun a b c d e => zbe (zik a b c d e))
 (fun a b c d e => zbe (ztl a b c d e))
 (fun a b c d e => zbe (zno a b c d e))
 (fun a b c => zbe (znp a b c))
 (fun a b => zbe (znk a b))
 (fun a b c => zbe (znl a b c))
 (fun a b c => zbe (zte a b c))
 (fun a b c d => zbe (zkj a b c d))
 (fun a b c d e => zbe (zki a b c d e))
 (fun a b => zbe (zkk a b))
 (fun a b => zbe (zij a b))
 (fun a b => zbe (i_len a b))
 (fun a => zbe (ztf a))
 (fun a b c d e => zbe (zkg a b c d e))
 (fun a b c d e => zbe (zii a b c d e))
 (fun a => zbe (ztb a))
 (fun a b => zbe (zti a b))
 (zbe znm)
 (fun a b c d => zbe (zkm a b c d))
 (fun a b c d e => zbe (zkl a b c d e))
 (fun a b c => zbe (ztd a b c))
 (fun a b c => zbe (znj a b c))
 (fun a b => zbe (zkn a b))
 (fun a b => zbe (zta a b))
 (fun a b c => zbe (i_peq a b c))
 (fun a b => zbe (ztm a b))
 (fun a => zbe (znn a))
 (fun a b c => zbe (ztn a b c))
 (fun a b c d => zbe (zih a b c d))
 (fun a b => wrapC a b)
 (zbe ztj)
 op
def resK (S : AS) (k : KS) : Option (AV × HS) → Option AS
 | some (v, H) => k v (S.withH H)
 | none => none
theorem opK_eq (P : Program) (E : Env) (R : Rec) (k : KS) (S : AS) (io : Opr) : opK io.op P E R k S = resK S k (zdh P E R S io) := by
 obtain ⟨dst, op, guard⟩ := io
 by_cases hc : ∃ fa args, op = .call fa args
 ·obtain ⟨fa, args, rfl⟩ := hc
  show wrapC fa args P E R k S = _
  simp only [wrapC, zaj, zfu, zdh, zay, zfj]
  cases S.arg fa with
  | none => rfl
  | some fv => cases S.args args with
   | none => rfl
   | some vs =>
    simp only [zjz, callK]
    cases zd5 E R S fv vs with
    | some v => rfl
    | none =>
     simp only [callK1]
     cases zs3 P R fv vs S.hs with
     | none => rfl
     | some r =>
      obtain ⟨v, H⟩ := r
      show zu2 k S v H = _
      obtain ⟨size, tmps, heap, next, clk, marks⟩ := S
      obtain ⟨h1, h2, h3⟩ := H
      simp only [zu2]
      cases zg6 marks h1 <;> rfl
 ·have h1 : opK op P E R k S = zvc k (iop S op) := by
   rw [← ztp]
   cases op <;> first
    | rfl
    | exact absurd ⟨_, _, rfl⟩ hc
  rw [h1]
  have h2 : zay E R S ⟨dst, op, guard⟩ = if zbk op then none else (iop S op).map (·.1) := by
   cases op <;> first
    | rfl
    | exact absurd ⟨_, _, rfl⟩ hc
  have h3 : zfj P R S ⟨dst, op, guard⟩ = match iop S op with | some (v, S1) => some (v, S1.hs) | none => none := by
   cases op <;> first
    | rfl
    | exact absurd ⟨_, _, rfl⟩ hc
  simp only [zdh, h2, h3]
  by_cases hl : zbk op = true
  ·rw [if_pos hl]
   cases hi : iop S op with
   | none => rfl
   | some r =>
    obtain ⟨v, S1⟩ := r
    show k v S1 = k v (S.withH S1.hs)
    rw [← zh9 hi]
  ·rw [if_neg hl]
   cases hi : iop S op with
   | none => rfl
   | some r =>
    obtain ⟨v, S1⟩ := r
    obtain rfl := zg3 (by simpa using hl) hi
    rfl
def zrz (o : Option AV) (b : Bool) : Option Bool := match o with
 | some (.bool x) => some (x == b)
 | some (.tup _) => some false
 | _ => none
def zld (g : Option (Nat × Bool)) : AS → Option Bool := match g with
 | none => fun _ => some true
 | some (d, b) => fun S => zrz (argT d S) b
theorem argT_eq (d : Nat) (S : AS) : argT d S = S.get d := zaj S (.t d)
theorem zk0 (S : AS) (io : Opr) : zld io.guard S = zag S io := by
 unfold zag
 cases io.guard with
 | none => rfl
 | some g => obtain ⟨d, b⟩ := g; simp only [zld, argT_eq]; cases S.get d with
  | none => rfl
  | some v => cases v <;> rfl
def runW (dst : Option Nat) (ih : AS → Option AS) (P : Program) (E : Env) (R : Rec) (op : IOp) (S : AS) : Option Bool → Option AS
 | some true => opK op P E R (putC dst ih) S
 | some false => putC dst ih (.tup []) S
 | none => none
def runG (dst : Option Nat) (op : IOp) (guard : Option (Nat × Bool)) (P : Program) (E : Env) (R : Rec) (ih : AS → Option AS) (S : AS) : Option AS :=
 Option.rec (motive := fun _ => Option AS) (opK op P E R (putC dst ih) S) (fun g => runW dst ih P E R op S (zrz (argT g.1 S) g.2)) guard
def zo4 (P : Program) (E : Env) (R : Rec) (io : Opr) (ih : AS → Option AS) : AS → Option AS := Opr.rec (motive := fun _ => AS → Option AS) (fun dst op guard => runG dst op guard P E R ih) io
def zuq (P : Program) (E : Env) (R : Rec) (ios : List Opr) : AS → Option AS := List.rec (motive := fun _ => AS → Option AS) some (fun io _ ih => zo4 P E R io ih) ios
theorem zpl (P : Program) (E : Env) (R : Rec) : ∀ (ios : List Opr) (S : AS), zuq P E R ios S = zr5 P E R ios S
 | [], S => rfl
 | io :: ios, S => by
  show zo4 P E R io (zuq P E R ios) S = _
  have ih : zuq P E R ios = zr5 P E R ios := funext fun S => zpl P E R ios S
  rw [ih]
  have h : zo4 P E R io (zr5 P E R ios) S = runW io.dst (zr5 P E R ios) P E R io.op S (zld io.guard S) := by
   obtain ⟨dst, op, guard⟩ := io
   cases guard with
   | none => rfl
   | some g => rfl
  rw [h, zk0, zr5]
  cases zag S io with
  | none => rfl
  | some b => cases b with
   | false => simp only [runW, zuf]
   | true =>
    simp only [runW, opK_eq]
    cases zdh P E R S io with
    | none => rfl
    | some r => obtain ⟨v, H⟩ := r; simp only [resK, zuf]; rfl
def putD2 (d : Nat) (ih : AS → Option AS) (v : AV) (S : AS) : Option AS :=
 AS.rec (motive := fun _ => Option AS) (fun size tmps heap next clk marks => ih ⟨size, zqv (some v) (zez d) tmps, heap, next, clk, marks⟩) S
def putN2 (dst : Option Nat) : (AS → Option AS) → KS := Option.rec (motive := fun _ => (AS → Option AS) → KS) putN putD2 dst
theorem zhd (dst : Option Nat) (ih : AS → Option AS) (v : AV) (S : AS) : putN2 dst ih v S = ih (S.put dst v) := by
 cases dst with
 | none => rfl
 | some d =>
  obtain ⟨size, tmps, heap, next, clk, marks⟩ := S
  show ih (putK (some d) v ⟨size, tmps, heap, next, clk, marks⟩) = _
  rw [zug]
theorem opK_nc (P : Program) (E : Env) (R : Rec) (k : KS) (S : AS) (op : IOp) (hc : ¬ ∃ fa args, op = .call fa args) : opK op P E R k S = zvc k (iop S op) := by
 rw [← ztp]
 cases op <;> first
  | rfl
  | exact absurd ⟨_, _, rfl⟩ hc
def optK (k : AV → AS → Option AS) (S : AS) : Option AV → Option AS
 | some v => k v S
 | none => none
def qCall0 (E : Env) (R : Rec) (k : KS) (S : AS) (vs : Option (List AV)) : Option AV → Option AS
 | some fv => match vs with
  | some vs => optK k S (zd5 E R S fv vs)
  | none => none
 | none => none
def qCall (fa : Arg) (args : List Arg) (_ : Program) (E : Env) (R : Rec) (k : KS) (S : AS) : Option AS := qCall0 E R k S (zln S args) (zcb S fa)
def qOp (op : IOp) (P : Program) (E : Env) (R : Rec) (k : KS) (S : AS) : Option AS := cond (zbk op) none (opK op P E R k S)
def qK (op : IOp) : Arm := match op with
 | .call fa args => qCall fa args
 | op => qOp op
theorem qK_eq (P : Program) (E : Env) (R : Rec) (k : KS) (S : AS) (io : Opr) : qK io.op P E R k S = optK k S (zay E R S io) := by
 obtain ⟨dst, op, guard⟩ := io
 by_cases hc : ∃ fa args, op = .call fa args
 ·obtain ⟨fa, args, rfl⟩ := hc
  simp only [qK, qCall, zaj, zfu, zay]
  cases S.arg fa with
  | none => rfl
  | some fv => cases S.args args <;> rfl
 ·have h1 : qK op P E R k S = cond (zbk op) none (zvc k (iop S op)) := by
   rw [← opK_nc P E R k S op hc]
   cases op <;> first
    | rfl
    | exact absurd ⟨_, _, rfl⟩ hc
  have h2 : zay E R S ⟨dst, op, guard⟩ = if zbk op then none else (iop S op).map (·.1) := by
   cases op <;> first
    | rfl
    | exact absurd ⟨_, _, rfl⟩ hc
  rw [h1, h2]
  by_cases hl : zbk op = true
  ·rw [hl, if_pos rfl]; rfl
  ·rw [if_neg hl]
   rw [show zbk op = false by simpa using hl]
   cases hi : iop S op with
   | none => rfl
   | some r =>
    obtain ⟨v, S1⟩ := r
    obtain rfl := zg3 (by simpa using hl) hi
    rfl
def iCall1 (E : Env) (R : Rec) (k : KS) (S : AS) (vs : List AV) : AV → Option AS
 | .fn fid first cap => cond (hasM.hasML (first ++ vs ++ cap)) none (optK k S (zd5 E R (S.withH zjp) (.fn fid first cap) vs))
 | _ => none
def iCall0 (E : Env) (R : Rec) (k : KS) (S : AS) (vs : Option (List AV)) : Option AV → Option AS
 | some fv => match vs with
  | some vs => iCall1 E R k S vs fv
  | none => none
 | none => none
def iCall (fa : Arg) (args : List Arg) (_ : Program) (E : Env) (R : Rec) (k : KS) (S : AS) : Option AS := iCall0 E R k S (zln S args) (zcb S fa)
def keepS (k : KS) (S : AS) : KS := fun v _ => k v S
def iOp (op : IOp) (P : Program) (E : Env) (R : Rec) (k : KS) (S : AS) : Option AS := cond (zbk op) none (opK op P E R (keepS k S) (S.withH zjp))
def iK (op : IOp) : Arm := match op with
 | .call fa args => iCall fa args
 | op => iOp op
theorem iK_eq (P : Program) (E : Env) (R : Rec) (k : KS) (S : AS) (io : Opr) : iK io.op P E R k S = optK k S (zfb E R S io) := by
 obtain ⟨dst, op, guard⟩ := io
 by_cases hc : ∃ fa args, op = .call fa args
 ·obtain ⟨fa, args, rfl⟩ := hc
  simp only [iK, iCall, zaj, zfu, zfb]
  cases S.arg fa with
  | none => rfl
  | some fv =>
   cases S.args args with
   | none => cases fv <;> rfl
   | some vs =>
    cases fv <;> try rfl
    rename_i fid first cap
    simp only [iCall0, iCall1]
    cases hasM.hasML (first ++ vs ++ cap) <;> rfl
 ·have h1 : iK op P E R k S = cond (zbk op) none (zvc (keepS k S) (iop (S.withH zjp) op)) := by
   rw [← opK_nc P E R (keepS k S) (S.withH zjp) op hc]
   cases op <;> first
    | rfl
    | exact absurd ⟨_, _, rfl⟩ hc
  have h2 : zfb E R S ⟨dst, op, guard⟩ = if zbk op then none else (iop (S.withH zjp) op).map (·.1) := by
   cases op <;> first
    | rfl
    | exact absurd ⟨_, _, rfl⟩ hc
  rw [h1, h2]
  by_cases hl : zbk op = true
  ·rw [hl, if_pos rfl]; rfl
  ·rw [if_neg hl]
   rw [show zbk op = false by simpa using hl]
   cases hi : iop (S.withH zjp) op with
   | none => rfl
   | some r => rfl
def armS (op : IOp) (q ind : Bool) : Arm := Bool.rec (motive := fun _ => Arm) (opK op) (Bool.rec (motive := fun _ => Arm) (qK op) (iK op) ind) q
def runWS (dst : Option Nat) (ih : AS → Option AS) (P : Program) (E : Env) (R : Rec) (op : IOp) (q ind : Bool) (S : AS) : Option Bool → Option AS
 | some true => armS op q ind P E R (putN2 dst ih) S
 | some false => putN2 dst ih (.tup []) S
 | none => none
def runGS (dst : Option Nat) (op : IOp) (guard : Option (Nat × Bool)) (q ind : Bool) (P : Program) (E : Env) (R : Rec) (ih : AS → Option AS) (S : AS) : Option AS :=
 Option.rec (motive := fun _ => Option AS) (armS op q ind P E R (putN2 dst ih) S) (fun g => runWS dst ih P E R op q ind S (zrz (argT g.1 S) g.2)) guard
def runFlag (P : Program) (E : Env) (R : Rec) (io : Opr) (ih : List (Bool × Bool) → AS → Option AS) (fl : List (Bool × Bool)) (S : AS) : Option AS :=
 List.rec (motive := fun _ => Option AS) none (fun f fl' _ => runGS io.dst io.op io.guard f.1 f.2 P E R (ih fl') S) fl
def doneS (fl : List (Bool × Bool)) (S : AS) : Option AS := List.rec (motive := fun _ => Option AS) (some S) (fun _ _ _ => none) fl
def runSK (P : Program) (E : Env) (R : Rec) (ios : List Opr) : List (Bool × Bool) → AS → Option AS :=
 List.rec (motive := fun _ => List (Bool × Bool) → AS → Option AS) doneS (fun io _ ih => runFlag P E R io ih) ios
theorem zpm (P : Program) (E : Env) (R : Rec) : ∀ (ios : List Opr) (fl : List (Bool × Bool)) (S : AS), runSK P E R ios fl S = zcx P E R ios fl S
 | [], [], S => rfl
 | [], _ :: _, S => rfl
 | io :: ios, [], S => rfl
 | io :: ios, (q, ind) :: fl, S => by
  have ih : runSK P E R ios fl = zcx P E R ios fl := funext fun S => zpm P E R ios fl S
  show runGS io.dst io.op io.guard q ind P E R (runSK P E R ios fl) S = _
  rw [ih]
  have h : runGS io.dst io.op io.guard q ind P E R (zcx P E R ios fl) S = runWS io.dst (zcx P E R ios fl) P E R io.op q ind S (zld io.guard S) := by
   cases hg : io.guard <;> rfl
  rw [h, zk0, zcx]
  cases zag S io with
  | none => rfl
  | some b => cases b with
   | false => simp only [runWS, zhd]
   | true =>
    simp only [runWS]
    cases q with
    | false =>
     show opK io.op P E R _ S = _
     rw [opK_eq]
     cases zdh P E R S io with
     | none => rfl
     | some r => obtain ⟨v, H⟩ := r; simp only [resK, zhd]; rfl
    | true =>
     cases ind with
     | false =>
      show qK io.op P E R _ S = _
      rw [qK_eq]
      simp only [if_true, y0r, if_false]
      cases zay E R S io with
      | none => rfl
      | some v => simp only [optK, zhd]
     | true =>
      show iK io.op P E R _ S = _
      rw [iK_eq]
      simp only [if_true]
      cases zfb E R S io with
      | none => rfl
      | some v => simp only [optK, zhd]
def runDK (P : Program) (E : Env) (R : Rec) (ios : List Opr) (pres : List (List Nat)) (S : AS) : Option (List (Bool × Bool)) → Option AS
 | some fl => match runSK P E R ios fl S with
  | some S1 => some S1
  | none => zgq P E R ios pres S
 | none => zgq P E R ios pres S
abbrev CK := AS → Option (Exit × AS)
def normK : Option AS → Option (Exit × AS)
 | some S => some (.normal, S)
 | none => none
def cSkip : CK := fun S => some (.normal, S)
def cReg (P : Program) (E : Env) (R : Rec) (ios : List Opr) (d : Option (List (List Nat))) : CK := match d with
 | none => fun S => normK (zuq P E R ios S)
 | some pres => fun S => normK (runDK P E R ios pres S (zl7 E ios pres S.size))
def zoc (k : CK) : Option (Exit × AS) → Option (Exit × AS)
 | some (.normal, S) => k S
 | r => r
def cSeq (a b : CK) : CK := fun S => zoc b (a S)
def condK (a b : CK) (S : AS) : Option AV → Option (Exit × AS)
 | some (.bool t) => cond t (a S) (b S)
 | _ => none
def cCond (c : Arg) (a b : CK) : CK := fun S => condK a b S (zcb S c)
def zrw (id : Nat) : Option (Exit × AS) → Option (Exit × AS)
 | some (.exit i, S) => cond (Nat.beq i id) (some (.normal, S)) (some (.exit i, S))
 | r => r
def cBlock (id : Nat) (b : CK) : CK := fun S => zrw id (b S)
def iterK (body : CK) (n : Nat) : CK := Nat.rec (motive := fun _ => CK) (fun _ => none) (fun _ ih S => zoc ih (body S)) n
def cLoop (n : Nat) (b : CK) : CK := iterK b n
def cRange (P : Program) (E : Env) (R : Rec) (rd : Option (Nat × Nat)) (g : Arg) (ps : List Nat) (ca cb : Code) : CK := fun S => zf8 P E R rd (.rangeFunc g ps ca cb .skip .skip) S
def cExit (id : Nat) : CK := fun S => some (.exit id, S)
def cRet : CK := fun S => some (.ret, S)
def cRefuse : CK := fun _ => none
def zj9 (P : Program) (E : Env) (R : Rec) (rd : Option (Nat × Nat)) (ic : IC) : CK :=
 IC.rec (motive := fun _ => CK) cSkip (cReg P E R) (fun _ _ a b => cSeq a b) (fun c _ _ a b => cCond c a b) (fun id _ b => cBlock id b) (fun _ b => cLoop E.fuel b)
  (fun g ps ca cb _ _ _ _ => cRange P E R rd g ps ca cb) cExit cRet cRefuse ic
theorem zoz (body body' : CK) (h : ∀ S, body S = body' S) : ∀ (n : Nat) (S : AS), iterK body n S = iter body' n S
 | 0, S => rfl
 | n + 1, S => by
  show zoc (iterK body n) (body S) = iter body' (n + 1) S
  rw [h S, iter]
  cases body' S with
  | none => rfl
  | some r => obtain ⟨e, S1⟩ := r; cases e <;> first | exact zoz body body' h n S1 | rfl
theorem zpk (P : Program) (E : Env) (R : Rec) (rd : Option (Nat × Nat)) (ic : IC) : ∀ S, zj9 P E R rd ic S = zf8 P E R rd ic S := by
 induction ic with
 | skip => intro S; rfl
 | region ios d =>
  intro S
  cases d with
  | none => show normK (zuq P E R ios S) = _; rw [zpl, zf8]; cases zr5 P E R ios S <;> rfl
  | some pres =>
   show normK (runDK P E R ios pres S (zl7 E ios pres S.size)) = _
   have : runDK P E R ios pres S (zl7 E ios pres S.size) = runD P E R ios pres S := by
    unfold runD
    cases zl7 E ios pres S.size with
    | none => rfl
    | some fl => simp only [runDK, zpm]; cases zcx P E R ios fl S <;> rfl
   rw [this, zf8]; cases runD P E R ios pres S <;> rfl
 | seq a b iha ihb =>
  intro S
  show zoc (zj9 P E R rd b) (zj9 P E R rd a S) = _
  rw [iha, zf8]
  cases zf8 P E R rd a S with
  | none => rfl
  | some r => obtain ⟨e, S1⟩ := r; cases e <;> first | exact ihb S1 | rfl
 | cond c a b iha ihb =>
  intro S
  show condK (zj9 P E R rd a) (zj9 P E R rd b) S (zcb S c) = _
  rw [zaj, zf8]
  cases S.arg c with
  | none => rfl
  | some v => cases v <;> first | rfl | (rename_i t; cases t <;> first | exact iha S | exact ihb S)
 | block id b ih =>
  intro S
  show zrw id (zj9 P E R rd b S) = _
  rw [ih, zf8]
  cases zf8 P E R rd b S with
  | none => rfl
  | some r =>
   obtain ⟨e, S1⟩ := r
   cases e <;> first
    | rfl
    | (
      rename_i i
      simp only [zrw]
      by_cases h : i = id
      ·rw [if_pos h, show Nat.beq i id = true from by rw [h]; exact y23 id]; rfl
      ·rw [if_neg h, show Nat.beq i id = false from by cases hb : Nat.beq i id with | false => rfl | true => exact absurd (y0m hb) h]; rfl)
 | loop b ih =>
  intro S
  show iterK (zj9 P E R rd b) E.fuel S = _
  rw [zf8]
  exact zoz _ _ ih _ S
 | rangeFunc g ps ca cb a b _ _ => intro S; show zf8 P E R rd (.rangeFunc g ps ca cb .skip .skip) S = _; simp only [zf8]
 | exit id => intro S; rfl
 | ret => intro S; rfl
 | refuse => intro S; rfl
def endK (i : FnI) : Option (Exit × AS) → Option (AV × HS)
 | some (e, S') => cond (isOut e) (match S'.leave.res i.res with
  | some v => some (v, S'.leave.hs)
  | none => none) none
 | none => none
def bodyK (P : Program) (E : Env) (R : Rec) (i : FnI) (args : List AV) (H : HS) : Option (AV × HS) :=
 cond (Nat.ble args.length i.size) (endK i (zj9 P E R none i.ic (AS.enter i.size args H))) none
def fnK (P : Program) (E : Env) (R : Rec) (args : List AV) (H : HS) : Option FnI → Option (AV × HS)
 | some i => bodyK P E R i args H
 | none => none
def sumK (P : Program) (E : Env) (R : Rec) (f : FuncId) (args : List AV) (H : HS) : Option (AV × HS) → Option (AV × HS)
 | some r => some r
 | none => fnK P E R args H (E.fn f)
def runFK (P : Program) (E : Env) (R : Rec) (f : FuncId) (args : List AV) (H : HS) : Option (AV × HS) := sumK P E R f args H (E.sum f args H)
theorem runFK_eq (P : Program) (E : Env) (R : Rec) (f : FuncId) (args : List AV) (H : HS) : runFK P E R f args H = runF P E R f args H := by
 unfold runFK runF
 cases E.sum f args H with
 | some r => rfl
 | none =>
  simp only [sumK]
  cases E.fn f with
  | none => rfl
  | some i =>
   simp only [fnK, bodyK, zpk]
   by_cases h : args.length ≤ i.size
   ·rw [if_pos h, show Nat.ble args.length i.size = true from y21 h]
    simp only [cond_true]
    cases zf8 P E R none i.ic (AS.enter i.size args H) with
    | none => rfl
    | some r => obtain ⟨e, S'⟩ := r; simp only [endK]; cases isOut e <;> rfl
   ·rw [if_neg h, show Nat.ble args.length i.size = false from by cases hb : Nat.ble args.length i.size with | false => rfl | true => exact absurd (y1d hb) h]; rfl
def lvlK (P : Program) (E : Env) (n : Nat) : Rec :=
 Nat.rec ⟨fun _ _ _ => none, fun _ _ _ => none⟩ (fun _ R => ⟨runFK P E R, zj9 P E R⟩) n
theorem ztz (P : Program) (E : Env) (n : Nat) : lvlK P E n = lvl P E n := by
 induction n with
 | zero => rfl
 | succ n ih =>
  show (⟨runFK P E (lvlK P E n), zj9 P E (lvlK P E n)⟩ : Rec) = ⟨runF P E (lvl P E n), zf8 P E (lvl P E n)⟩
  rw [ih]
  congr 1
  ·funext f a H; exact runFK_eq ..
  ·funext rd ic S; exact zpk ..
def seeK (v : AV) : Option (AV × HS) → Bool
 | some (v0, H) => AV.beq ((⟨0, .nil, H.heap, H.next, H.clk, []⟩ : AS).view VD v0) v
 | none => false
def zk3 (P : Program) (E : Env) (n : Nat) (f : FuncId) (args : List AV) (v : AV) : Bool := seeK v ((lvlK P E n).f f args ⟨[], 0, 0⟩)
theorem zq7 (P : Program) (E : Env) (n : Nat) (f : FuncId) (args : List AV) (v : AV) : zk3 P E n f args v = zoj P E n f args v := by
 unfold zk3 zoj
 rw [ztz]
 cases (lvl P E n).f f args ⟨[], 0, 0⟩ with
 | none => rfl
 | some r => rfl
theorem zr9 {P : Program} {E : Env} (hE : EnvOk P E) {n : Nat} {f : FuncId} {args : List AV} {v : AV} (h : zk3 P E n f args v = true) : PF P f args v :=
 zlg hE (by rw [← zq7]; exact h)
end
noncomputable section
abbrev Tab := List (FuncId × List (List AV × AV))
def zst (f : FuncId) (T : Tab) : Option (List (List AV × AV)) :=
 List.rec (motive := fun _ => Option (List (List AV × AV))) none (fun x _ ih => Bool.rec (motive := fun _ => Option (List (List AV × AV))) ih (some x.2) (Nat.beq x.1 f)) T
def findA (args : List AV) (l : List (List AV × AV)) : Option AV :=
 List.rec (motive := fun _ => Option AV) none (fun x _ ih => Bool.rec (motive := fun _ => Option AV) ih (some x.2) (zmx x.1 args)) l
def findT (T : Tab) (f : FuncId) (args : List AV) : Option AV := Option.rec (motive := fun _ => Option AV) none (fun l => findA args l) (zst f T)
def TabOk (P : Program) (T : Tab) : Prop := ∀ x ∈ T, ∀ y ∈ x.2, PF P x.1 y.1 y.2
theorem zlz {f : FuncId} : ∀ {T : Tab} {l : List (List AV × AV)}, zst f T = some l → (f, l) ∈ T
 | [], l, h => by cases h
 | x :: T, l, h => by
  have e : zst f (x :: T) = Bool.rec (motive := fun _ => Option (List (List AV × AV))) (zst f T) (some x.2) (Nat.beq x.1 f) := rfl
  rw [e] at h
  cases hb : Nat.beq x.1 f with
  | true =>
   rw [hb] at h
   injection h with h
   obtain ⟨a, b⟩ := x
   have : a = f := y0m hb
   subst this
   subst h
   exact y06 ..
  | false => rw [hb] at h; exact y04 _ (zlz h)
theorem zly {args : List AV} {v : AV} : ∀ {l : List (List AV × AV)}, findA args l = some v → (args, v) ∈ l
 | [], h => by cases h
 | x :: l, h => by
  have e : findA args (x :: l) = Bool.rec (motive := fun _ => Option AV) (findA args l) (some x.2) (zmx x.1 args) := rfl
  rw [e] at h
  cases hb : zmx x.1 args with
  | true =>
   rw [hb] at h
   injection h with h
   obtain ⟨a, b⟩ := x
   have : a = args := zbx _ _ hb
   subst this
   subst h
   exact y06 ..
  | false => rw [hb] at h; exact y04 _ (zly h)
theorem findT_ok {P : Program} {T : Tab} (hT : TabOk P T) {f : FuncId} {args : List AV} {v : AV} (h : findT T f args = some v) : PF P f args v := by
 unfold findT at h
 cases hl : zst f T with
 | none => rw [hl] at h; cases h
 | some l => rw [hl] at h; exact hT _ (zlz hl) _ (zly h)
def Env.tab (E : Env) (T : Tab) (pure : List Nat) : Env := { E with orc := findT T, pure := fun f => pure.any (Nat.beq f), known := fun f => pure.any (Nat.beq f) || T.any fun x => Nat.beq x.1 f }
theorem EnvOk.tab {P : Program} {E : Env} (h : EnvOk P E) {T : Tab} (hT : TabOk P T) {pure : List Nat} : EnvOk P (E.tab T pure) :=
 ⟨h.fn, fun _ _ _ e => findT_ok hT e, h.sum, h.mix⟩
def allRun (P : Program) (E : Env) (n : Nat) (T : Tab) : Bool := T.all fun x => x.2.all fun y => zk3 P E n x.1 y.1 y.2
theorem TabOk.of_run {P : Program} {E : Env} (hE : EnvOk P E) {n : Nat} {T : Tab} (h : allRun P E n T = true) : TabOk P T :=
 fun x hx y hy => zr9 hE (y0b.1 (y0b.1 h x hx) y hy)
theorem TabOk.nil {P : Program} : TabOk P [] := fun x hx => by cases hx
theorem TabOk.append {P : Program} {T U : Tab} (h : TabOk P T) (k : TabOk P U) : TabOk P (T ++ U) := fun x hx => by
 rcases y0n.1 hx with hx | hx
 ·exact h x hx
 ·exact k x hx
end
end Go.Am
