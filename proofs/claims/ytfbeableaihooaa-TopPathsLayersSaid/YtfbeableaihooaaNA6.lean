/-
  AN ABSTRACT MACHINE FOR PROOFS, PART 6. A general base for proofs: no program is named here.
-/
import Derived.Test.YtfbeableaihooaaNA5
namespace Go.Am
open Go Go.RowKit
def fnOf (P : Program) (fn : Func) : Option FnI :=
 match fn.body with
 | some code => match zg7 P code, zes P fn.results.toList with
  | some ic, some ras => if fn.name == "runtime.NumGoroutine" then none else some ⟨fn.ntmps, ic, ras⟩
  | _, _ => none
 | none => none
def envOf (P : Program) (fuel : Nat) : Env :=
 ⟨fun f => match P.funcs[f]? with
  | some fn => fnOf P fn
  | none => none, fun _ _ => none, fun _ _ _ => none, fun _ => false, fun _ => false, fuel⟩
theorem ztm {P : Program} {f : FuncId} {fn : Func} {code : Code} (hf : P.funcs[f]? = some fn) (hb : fn.body = some code) (hn : (fn.name == "runtime.NumGoroutine") = false) : Ent P f := by
 intro args w
 unfold callFunc
 have hp : (program : Sem Program).run P w = .ok P w := rfl
 simp only [Sem.run_bind, hp, Result.andThen_ok, hf]
 rw [if_neg (by rw [hn]; simp), if_neg (by rw [hb]; simp)]
 rfl
theorem fnOf_ok {P : Program} {f : FuncId} {fn : Func} {i : FnI} (hf : P.funcs[f]? = some fn) (h : fnOf P fn = some i) :
  ∃ fn code, P.funcs[f]? = some fn ∧ fn.body = some code ∧ zg7 P code = some i.ic ∧ fn.ntmps = i.size ∧ zes P fn.results.toList = some i.res ∧ Ent P f := by
 unfold fnOf at h
 split at h <;> try cases h
 rename_i code hc
 split at h <;> try cases h
 rename_i ic ras h1 h2
 split at h <;> try cases h
 rename_i hn
 exact ⟨fn, code, hf, hc, h1, rfl, h2, ztm hf hc (by simpa using hn)⟩
theorem envOf_ok {P : Program} (fuel : Nat) (hm : P.follows .mixedOrders = true) : EnvOk P (envOf P fuel) := by
 refine ⟨fun f i h => ?_, fun f args v h => (by cases h), fun f args H v H' h => (by cases h), hm⟩
 simp only [envOf] at h
 split at h
 ·rename_i fn hf; exact fnOf_ok hf h
 ·cases h
def tabO : List (FuncId × List AV × AV) → FuncId → List AV → Option AV
 | [], _, _ => none
 | (g, as, v) :: l, f, args => if Nat.beq g f then (if zna as args then some v else tabO l f args) else tabO l f args
theorem zw8 {P : Program} : ∀ {l : List (FuncId × List AV × AV)}, (∀ x ∈ l, PF P x.1 x.2.1 x.2.2) → ∀ {f : FuncId} {args : List AV} {v : AV}, tabO l f args = some v → PF P f args v
 | [], _, f, args, v, h => by simp [tabO] at h
 | (g, as, u) :: l, hl, f, args, v, h => by
  have ih := fun h => zw8 (fun x hx => hl x (y06 _ hx)) (f := f) (args := args) (v := v) h
  simp only [tabO] at h
  split at h
  ·rename_i h1
   split at h
   ·rename_i h2
    simp only [y00] at h; subst h
    have e1 : g = f := y0o h1
    have e2 := zc3 _ _ h2
    subst e1 e2
    exact hl _ (y08 ..)
   ·exact ih h
  ·exact ih h
def Env.with (E : Env) (l : List (FuncId × List AV × AV)) (pure : List Nat) : Env := { E with orc := tabO l, pure := fun f => pure.any (Nat.beq f), known := fun f => pure.any (Nat.beq f) || l.any fun x => Nat.beq x.1 f }
theorem EnvOk.with {P : Program} {E : Env} (h : EnvOk P E) {l : List (FuncId × List AV × AV)} {pure : List Nat} (hl : ∀ x ∈ l, PF P x.1 x.2.1 x.2.2) : EnvOk P (E.with l pure) :=
 ⟨h.fn, fun _ _ _ e => zw8 hl e, h.sum, h.mix⟩
def zp8 (P : Program) (E : Env) (n : Nat) (f : FuncId) (args : List AV) (v : AV) : Bool :=
 match (lvl P E n).f f args ⟨[], 0, 0⟩ with
 | some (v0, H) => AV.beq ((⟨0, .nil, H.heap, H.next, H.clk, []⟩ : AS).view VD v0) v
 | none => false
theorem zlr {P : Program} {E : Env} (hE : EnvOk P E) {n : Nat} {f : FuncId} {args : List AV} {v : AV} (h : zp8 P E n f args v = true) : PF P f args v := by
 unfold zp8 at h
 split at h
 ·rename_i v0 H hr
  refine zor fun w0 N0 => ((lvl_ok hE n).1 _ _ _ _ _ hr w0 N0).mono fun v1 H1 ⟨e1, e2⟩ => ?_
  subst e1 e2
  exact AV.eq_of_beq _ _ h
 ·cases h
noncomputable section
def setV (o : Option AV) (t : TM) : TM := TM.rec (motive := fun _ => TM) (.nd o .nil .nil) (fun _ l r _ _ => .nd o l r) t
def setL (ih : TM → TM) (t : TM) : TM := TM.rec (motive := fun _ => TM) (.nd none (ih .nil) .nil) (fun v l r _ _ => .nd v (ih l) r) t
def setR (ih : TM → TM) (t : TM) : TM := TM.rec (motive := fun _ => TM) (.nd none .nil (ih .nil)) (fun v l r _ _ => .nd v l (ih r)) t
def zro (o : Option AV) (p : List Bool) : TM → TM := List.rec (motive := fun _ => TM → TM) (setV o) (fun b _ ih => Bool.rec (motive := fun _ => TM → TM) (setL ih) (setR ih) b) p
theorem setPK_eq (o : Option AV) (p : List Bool) : zro o p = TM.setP o p := by
 induction p with
 | nil => funext t; cases t <;> rfl
 | cons b p ih =>
  show Bool.rec (motive := fun _ => TM → TM) (setL (zro o p)) (setR (zro o p)) b = zw0 b (TM.setP o p)
  rw [ih]
  funext t
  cases b <;> cases t <;> rfl
def putK (dst : Option Nat) : AV → AS → AS := match dst with
 | some d => fun v S => ⟨S.size, zro (some v) (zf2 d) S.tmps, S.heap, S.next, S.clk, S.marks⟩
 | none => fun _ S => S
theorem zvg (dst : Option Nat) (v : AV) (S : AS) : putK dst v S = S.put dst v := by
 cases dst with
 | none => rfl
 | some d => simp only [putK, AS.put, setPK_eq]; rfl
def zv8 (dst : Option Nat) : Nat → Bool := match dst with
 | some d => Nat.ble (Nat.succ d)
 | none => fun _ => true
theorem zv9 (dst : Option Nat) (n : Nat) : zv8 dst n = zc1 n dst := by
 cases dst with
 | none => rfl
 | some d => simp only [zv8, zc1]; rw [Bool.eq_iff_iff, Nat.ble_eq, decide_eq_true_iff]; exact Iff.rfl
abbrev KS := AV → AS → Option AS
def putS (d : Nat) (ih : AS → Option AS) (v : AV) (S : AS) : Option AS :=
 AS.rec (motive := fun _ => Option AS) (fun size tmps heap next clk marks => Bool.rec (motive := fun _ => Option AS) none (ih ⟨size, zro (some v) (zf2 d) tmps, heap, next, clk, marks⟩) (Nat.ble (Nat.succ d) size)) S
def putN (ih : AS → Option AS) (_ : AV) (S : AS) : Option AS := ih S
def putC (dst : Option Nat) : (AS → Option AS) → KS := Option.rec (motive := fun _ => (AS → Option AS) → KS) putN putS dst
theorem zvf (dst : Option Nat) (ih : AS → Option AS) (v : AV) (S : AS) : putC dst ih v S = if zc1 S.size dst then ih (S.put dst v) else none := by
 cases dst with
 | none => rfl
 | some d =>
  obtain ⟨size, tmps, heap, next, clk, marks⟩ := S
  show Bool.rec (motive := fun _ => Option AS) none (ih (putK (some d) v ⟨size, tmps, heap, next, clk, marks⟩)) (zv8 (some d) size) = _
  rw [zv9, zvg]
  cases zc1 size (some d) <;> rfl
def zwl (k : KS) (o : Option (AV × AS)) : Option AS := Option.rec (motive := fun _ => Option AS) none (fun x => Prod.rec (motive := fun _ => Option AS) (fun v S1 => k v S1) x) o
abbrev Arm := Program → Env → Rec → KS → AS → Option AS
def zbp (f : AS → Option (AV × AS)) (_ : Program) (_ : Env) (_ : Rec) (k : KS) (S : AS) : Option AS := zwl k (f S)
def zuy (k : KS) (S : AS) (v : AV) (H : HS) : Option AS := match S with
 | ⟨size, tmps, _, _, _, marks⟩ => match H with
  | ⟨heap, next, clk⟩ => cond (zgd marks heap) (k v ⟨size, tmps, heap, next, clk, marks⟩) none
def callK2 (k : KS) (S : AS) : Option (AV × HS) → Option AS
 | some (v, H) => zuy k S v H
 | none => none
def callK1 (P : Program) (R : Rec) (k : KS) (S : AS) (fv : AV) (vs : List AV) : Option AV → Option AS
 | some v => k v S
 | none => callK2 k S (zsv P R fv vs S.hs)
def callK (P : Program) (E : Env) (R : Rec) (k : KS) (S : AS) (fv : AV) (vs : List AV) : Option AS := callK1 P R k S fv vs (zdd E R S fv vs)
def zk7 (P : Program) (E : Env) (R : Rec) (k : KS) (S : AS) (vs : Option (List AV)) : Option AV → Option AS
 | some fv => match vs with
  | some vs => callK P E R k S fv vs
  | none => none
 | none => none
def wrapC (fa : Arg) (args : List Arg) (P : Program) (E : Env) (R : Rec) (k : KS) (S : AS) : Option AS := zk7 P E R k S (zm0 S args) (zch S fa)
def opK (op : IOp) : Arm := IOp.rec (motive := fun _ => Arm)
 (fun a => zbp (i_mov a))
 (fun a b c => zbp (zue a b c))
 (fun a => zbp (znx a))
 (fun a => zbp (i_box a))
 (fun a b => zbp (zny a b))
 (fun a b c d => zbp (zks a b c d))
 (fun a b => zbp (zua a b))
 (fun a b c => zbp (zo6 a b c))
 (fun a => zbp (zkz a))
 (fun a b c => zbp (i_bin a b c))
 (fun a b c => zbp (i_eqb a b c))
 (fun a b c d => zbp (i_eqs a b c d))
 (fun a b => zbp (i_un a b))
 (fun a b => zbp (zu6 a b))
 (fun a b c => zbp (zub a b c))
 (fun a b c d e => zbp (zis a b c d e))
 (fun a b c d e => zbp (zuf a b c d e))
 (fun a b c d e => zbp (zo4 a b c d e))
 (fun a b c => zbp (zo5 a b c))
 (fun a b => zbp (zo0 a b))
 (fun a b c => zbp (zo1 a b c))
 (fun a b c => zbp (zu8 a b c))
 (fun a b c d => zbp (zku a b c d))
 (fun a b c d e => zbp (zkt a b c d e))
 (fun a b => zbp (zkv a b))
 (fun a b => zbp (zir a b))
 (fun a b => zbp (i_len a b))
 (fun a => zbp (zu9 a))
 (fun a b c d e => zbp (zkr a b c d e))
 (fun a b c d e => zbp (ziq a b c d e))
 (fun a => zbp (zu5 a))
 (fun a b => zbp (zuc a b))
 (zbp zo2)
 (fun a b c d => zbp (zkx a b c d))
 (fun a b c d e => zbp (zkw a b c d e))
 (fun a b c => zbp (zu7 a b c))
 (fun a b c => zbp (znz a b c))
 (fun a b => zbp (zky a b))
 (fun a b => zbp (zu4 a b))
 (fun a b c => zbp (i_peq a b c))
 (fun a b => zbp (zug a b))
 (fun a => zbp (zo3 a))
 (fun a b c => zbp (zuh a b c))
 (fun a b c d => zbp (zio a b c d))
 (fun a b => wrapC a b)
 (zbp zud)
 op
def resK (S : AS) (k : KS) : Option (AV × HS) → Option AS
 | some (v, H) => k v (S.withH H)
 | none => none
theorem opK_eq (P : Program) (E : Env) (R : Rec) (k : KS) (S : AS) (io : Opr) : opK io.op P E R k S = resK S k (zdk P E R S io) := by
 obtain ⟨dst, op, guard⟩ := io
 by_cases hc : ∃ fa args, op = .call fa args
 ·obtain ⟨fa, args, rfl⟩ := hc
  show wrapC fa args P E R k S = _
  simp only [wrapC, zan, zg1, zdk, zba, zfr]
  cases S.arg fa with
  | none => rfl
  | some fv => cases S.args args with
   | none => rfl
   | some vs =>
    simp only [zk7, callK]
    cases zdd E R S fv vs with
    | some v => rfl
    | none =>
     simp only [callK1]
     cases zsv P R fv vs S.hs with
     | none => rfl
     | some r =>
      obtain ⟨v, H⟩ := r
      show zuy k S v H = _
      obtain ⟨size, tmps, heap, next, clk, marks⟩ := S
      obtain ⟨h1, h2, h3⟩ := H
      simp only [zuy]
      cases zgd marks h1 <;> rfl
 ·have h1 : opK op P E R k S = zwl k (iop S op) := by
   rw [← zuk]
   cases op <;> first
    | rfl
    | exact absurd ⟨_, _, rfl⟩ hc
  rw [h1]
  have h2 : zba E R S ⟨dst, op, guard⟩ = if zbv op then none else (iop S op).map (·.1) := by
   cases op <;> first
    | rfl
    | exact absurd ⟨_, _, rfl⟩ hc
  have h3 : zfr P R S ⟨dst, op, guard⟩ = match iop S op with | some (v, S1) => some (v, S1.hs) | none => none := by
   cases op <;> first
    | rfl
    | exact absurd ⟨_, _, rfl⟩ hc
  simp only [zdk, h2, h3]
  by_cases hl : zbv op = true
  ·rw [if_pos hl]
   cases hi : iop S op with
   | none => rfl
   | some r =>
    obtain ⟨v, S1⟩ := r
    show k v S1 = k v (S.withH S1.hs)
    rw [← zhh hi]
  ·rw [if_neg hl]
   cases hi : iop S op with
   | none => rfl
   | some r =>
    obtain ⟨v, S1⟩ := r
    obtain rfl := zgb (by simpa using hl) hi
    rfl
def zss (o : Option AV) (b : Bool) : Option Bool := match o with
 | some (.bool x) => some (x == b)
 | some (.tup _) => some false
 | _ => none
def zlp (g : Option (Nat × Bool)) : AS → Option Bool := match g with
 | none => fun _ => some true
 | some (d, b) => fun S => zss (argT d S) b
theorem argT_eq (d : Nat) (S : AS) : argT d S = S.get d := zan S (.t d)
theorem zk9 (S : AS) (io : Opr) : zlp io.guard S = zaj S io := by
 unfold zaj
 cases io.guard with
 | none => rfl
 | some g => obtain ⟨d, b⟩ := g; simp only [zlp, argT_eq]; cases S.get d with
  | none => rfl
  | some v => cases v <;> rfl
def runW (dst : Option Nat) (ih : AS → Option AS) (P : Program) (E : Env) (R : Rec) (op : IOp) (S : AS) : Option Bool → Option AS
 | some true => opK op P E R (putC dst ih) S
 | some false => putC dst ih (.tup []) S
 | none => none
def runG (dst : Option Nat) (op : IOp) (guard : Option (Nat × Bool)) (P : Program) (E : Env) (R : Rec) (ih : AS → Option AS) (S : AS) : Option AS :=
 Option.rec (motive := fun _ => Option AS) (opK op P E R (putC dst ih) S) (fun g => runW dst ih P E R op S (zss (argT g.1 S) g.2)) guard
def zok (P : Program) (E : Env) (R : Rec) (io : Opr) (ih : AS → Option AS) : AS → Option AS := Opr.rec (motive := fun _ => AS → Option AS) (fun dst op guard => runG dst op guard P E R ih) io
def zvt (P : Program) (E : Env) (R : Rec) (ios : List Opr) : AS → Option AS := List.rec (motive := fun _ => AS → Option AS) some (fun io _ ih => zok P E R io ih) ios
theorem zqc (P : Program) (E : Env) (R : Rec) : ∀ (ios : List Opr) (S : AS), zvt P E R ios S = zrz P E R ios S
 | [], S => rfl
 | io :: ios, S => by
  show zok P E R io (zvt P E R ios) S = _
  have ih : zvt P E R ios = zrz P E R ios := funext fun S => zqc P E R ios S
  rw [ih]
  have h : zok P E R io (zrz P E R ios) S = runW io.dst (zrz P E R ios) P E R io.op S (zlp io.guard S) := by
   obtain ⟨dst, op, guard⟩ := io
   cases guard with
   | none => rfl
   | some g => rfl
  rw [h, zk9, zrz]
  cases zaj S io with
  | none => rfl
  | some b => cases b with
   | false => simp only [runW, zvf]
   | true =>
    simp only [runW, opK_eq]
    cases zdk P E R S io with
    | none => rfl
    | some r => obtain ⟨v, H⟩ := r; simp only [resK, zvf]; rfl
def putD2 (d : Nat) (ih : AS → Option AS) (v : AV) (S : AS) : Option AS :=
 AS.rec (motive := fun _ => Option AS) (fun size tmps heap next clk marks => ih ⟨size, zro (some v) (zf2 d) tmps, heap, next, clk, marks⟩) S
def putN2 (dst : Option Nat) : (AS → Option AS) → KS := Option.rec (motive := fun _ => (AS → Option AS) → KS) putN putD2 dst
theorem zhm (dst : Option Nat) (ih : AS → Option AS) (v : AV) (S : AS) : putN2 dst ih v S = ih (S.put dst v) := by
 cases dst with
 | none => rfl
 | some d =>
  obtain ⟨size, tmps, heap, next, clk, marks⟩ := S
  show ih (putK (some d) v ⟨size, tmps, heap, next, clk, marks⟩) = _
  rw [zvg]
theorem opK_nc (P : Program) (E : Env) (R : Rec) (k : KS) (S : AS) (op : IOp) (hc : ¬ ∃ fa args, op = .call fa args) : opK op P E R k S = zwl k (iop S op) := by
 rw [← zuk]
 cases op <;> first
  | rfl
  | exact absurd ⟨_, _, rfl⟩ hc
def optK (k : AV → AS → Option AS) (S : AS) : Option AV → Option AS
 | some v => k v S
 | none => none
def qCall0 (E : Env) (R : Rec) (k : KS) (S : AS) (vs : Option (List AV)) : Option AV → Option AS
 | some fv => match vs with
  | some vs => optK k S (zdd E R S fv vs)
  | none => none
 | none => none
def qCall (fa : Arg) (args : List Arg) (_ : Program) (E : Env) (R : Rec) (k : KS) (S : AS) : Option AS := qCall0 E R k S (zm0 S args) (zch S fa)
def qOp (op : IOp) (P : Program) (E : Env) (R : Rec) (k : KS) (S : AS) : Option AS := cond (zbv op) none (opK op P E R k S)
def qK (op : IOp) : Arm := match op with
 | .call fa args => qCall fa args
 | op => qOp op
theorem qK_eq (P : Program) (E : Env) (R : Rec) (k : KS) (S : AS) (io : Opr) : qK io.op P E R k S = optK k S (zba E R S io) := by
 obtain ⟨dst, op, guard⟩ := io
 by_cases hc : ∃ fa args, op = .call fa args
 ·obtain ⟨fa, args, rfl⟩ := hc
  simp only [qK, qCall, zan, zg1, zba]
  cases S.arg fa with
  | none => rfl
  | some fv => cases S.args args <;> rfl
 ·have h1 : qK op P E R k S = cond (zbv op) none (zwl k (iop S op)) := by
   rw [← opK_nc P E R k S op hc]
   cases op <;> first
    | rfl
    | exact absurd ⟨_, _, rfl⟩ hc
  have h2 : zba E R S ⟨dst, op, guard⟩ = if zbv op then none else (iop S op).map (·.1) := by
   cases op <;> first
    | rfl
    | exact absurd ⟨_, _, rfl⟩ hc
  rw [h1, h2]
  by_cases hl : zbv op = true
  ·rw [hl, if_pos rfl]; rfl
  ·rw [if_neg hl]
   rw [show zbv op = false by simpa using hl]
   cases hi : iop S op with
   | none => rfl
   | some r =>
    obtain ⟨v, S1⟩ := r
    obtain rfl := zgb (by simpa using hl) hi
    rfl
def iCall1 (E : Env) (R : Rec) (k : KS) (S : AS) (vs : List AV) : AV → Option AS
 | .fn fid first cap => cond (hasM.hasML (first ++ vs ++ cap)) none (optK k S (zdd E R (S.withH zjv) (.fn fid first cap) vs))
 | _ => none
def iCall0 (E : Env) (R : Rec) (k : KS) (S : AS) (vs : Option (List AV)) : Option AV → Option AS
 | some fv => match vs with
  | some vs => iCall1 E R k S vs fv
  | none => none
 | none => none
def iCall (fa : Arg) (args : List Arg) (_ : Program) (E : Env) (R : Rec) (k : KS) (S : AS) : Option AS := iCall0 E R k S (zm0 S args) (zch S fa)
def keepS (k : KS) (S : AS) : KS := fun v _ => k v S
def iOp (op : IOp) (P : Program) (E : Env) (R : Rec) (k : KS) (S : AS) : Option AS := cond (zbv op) none (opK op P E R (keepS k S) (S.withH zjv))
def iK (op : IOp) : Arm := match op with
 | .call fa args => iCall fa args
 | op => iOp op
theorem iK_eq (P : Program) (E : Env) (R : Rec) (k : KS) (S : AS) (io : Opr) : iK io.op P E R k S = optK k S (zfl E R S io) := by
 obtain ⟨dst, op, guard⟩ := io
 by_cases hc : ∃ fa args, op = .call fa args
 ·obtain ⟨fa, args, rfl⟩ := hc
  simp only [iK, iCall, zan, zg1, zfl]
  cases S.arg fa with
  | none => rfl
  | some fv =>
   cases S.args args with
   | none => cases fv <;> rfl
   | some vs =>
    cases fv <;> try rfl
    rename_i fid first cap
    simp only [iCall0, iCall1]
    cases hasM.hasML (first ++ vs ++ cap) <;> rfl
 ·have h1 : iK op P E R k S = cond (zbv op) none (zwl (keepS k S) (iop (S.withH zjv) op)) := by
   rw [← opK_nc P E R (keepS k S) (S.withH zjv) op hc]
   cases op <;> first
    | rfl
    | exact absurd ⟨_, _, rfl⟩ hc
  have h2 : zfl E R S ⟨dst, op, guard⟩ = if zbv op then none else (iop (S.withH zjv) op).map (·.1) := by
   cases op <;> first
    | rfl
    | exact absurd ⟨_, _, rfl⟩ hc
  rw [h1, h2]
  by_cases hl : zbv op = true
  ·rw [hl, if_pos rfl]; rfl
  ·rw [if_neg hl]
   rw [show zbv op = false by simpa using hl]
   cases hi : iop (S.withH zjv) op with
   | none => rfl
   | some r => rfl
def armS (op : IOp) (q ind : Bool) : Arm := Bool.rec (motive := fun _ => Arm) (opK op) (Bool.rec (motive := fun _ => Arm) (qK op) (iK op) ind) q
def runWS (dst : Option Nat) (ih : AS → Option AS) (P : Program) (E : Env) (R : Rec) (op : IOp) (q ind : Bool) (S : AS) : Option Bool → Option AS
 | some true => armS op q ind P E R (putN2 dst ih) S
 | some false => putN2 dst ih (.tup []) S
 | none => none
def runGS (dst : Option Nat) (op : IOp) (guard : Option (Nat × Bool)) (q ind : Bool) (P : Program) (E : Env) (R : Rec) (ih : AS → Option AS) (S : AS) : Option AS :=
 Option.rec (motive := fun _ => Option AS) (armS op q ind P E R (putN2 dst ih) S) (fun g => runWS dst ih P E R op q ind S (zss (argT g.1 S) g.2)) guard
def runFlag (P : Program) (E : Env) (R : Rec) (io : Opr) (ih : List (Bool × Bool) → AS → Option AS) (fl : List (Bool × Bool)) (S : AS) : Option AS :=
 List.rec (motive := fun _ => Option AS) none (fun f fl' _ => runGS io.dst io.op io.guard f.1 f.2 P E R (ih fl') S) fl
def doneS (fl : List (Bool × Bool)) (S : AS) : Option AS := List.rec (motive := fun _ => Option AS) (some S) (fun _ _ _ => none) fl
def runSK (P : Program) (E : Env) (R : Rec) (ios : List Opr) : List (Bool × Bool) → AS → Option AS :=
 List.rec (motive := fun _ => List (Bool × Bool) → AS → Option AS) doneS (fun io _ ih => runFlag P E R io ih) ios
theorem zqd (P : Program) (E : Env) (R : Rec) : ∀ (ios : List Opr) (fl : List (Bool × Bool)) (S : AS), runSK P E R ios fl S = zd3 P E R ios fl S
 | [], [], S => rfl
 | [], _ :: _, S => rfl
 | io :: ios, [], S => rfl
 | io :: ios, (q, ind) :: fl, S => by
  have ih : runSK P E R ios fl = zd3 P E R ios fl := funext fun S => zqd P E R ios fl S
  show runGS io.dst io.op io.guard q ind P E R (runSK P E R ios fl) S = _
  rw [ih]
  have h : runGS io.dst io.op io.guard q ind P E R (zd3 P E R ios fl) S = runWS io.dst (zd3 P E R ios fl) P E R io.op q ind S (zlp io.guard S) := by
   cases hg : io.guard <;> rfl
  rw [h, zk9, zd3]
  cases zaj S io with
  | none => rfl
  | some b => cases b with
   | false => simp only [runWS, zhm]
   | true =>
    simp only [runWS]
    cases q with
    | false =>
     show opK io.op P E R _ S = _
     rw [opK_eq]
     cases zdk P E R S io with
     | none => rfl
     | some r => obtain ⟨v, H⟩ := r; simp only [resK, zhm]; rfl
    | true =>
     cases ind with
     | false =>
      show qK io.op P E R _ S = _
      rw [qK_eq]
      simp only [if_true, y0u, if_false]
      cases zba E R S io with
      | none => rfl
      | some v => simp only [optK, zhm]
     | true =>
      show iK io.op P E R _ S = _
      rw [iK_eq]
      simp only [if_true]
      cases zfl E R S io with
      | none => rfl
      | some v => simp only [optK, zhm]
def runDK (P : Program) (E : Env) (R : Rec) (ios : List Opr) (pres : List (List Nat)) (S : AS) : Option (List (Bool × Bool)) → Option AS
 | some fl => match runSK P E R ios fl S with
  | some S1 => some S1
  | none => zh0 P E R ios pres S
 | none => zh0 P E R ios pres S
abbrev CK := AS → Option (Exit × AS)
def normK : Option AS → Option (Exit × AS)
 | some S => some (.normal, S)
 | none => none
def cSkip : CK := fun S => some (.normal, S)
def cReg (P : Program) (E : Env) (R : Rec) (ios : List Opr) (d : Option (List (List Nat))) : CK := match d with
 | none => fun S => normK (zvt P E R ios S)
 | some pres => fun S => normK (runDK P E R ios pres S (zlk E ios pres S.size))
def zot (k : CK) : Option (Exit × AS) → Option (Exit × AS)
 | some (.normal, S) => k S
 | r => r
def cSeq (a b : CK) : CK := fun S => zot b (a S)
def condK (a b : CK) (S : AS) : Option AV → Option (Exit × AS)
 | some (.bool t) => cond t (a S) (b S)
 | _ => none
def cCond (c : Arg) (a b : CK) : CK := fun S => condK a b S (zch S c)
def zsq (id : Nat) : Option (Exit × AS) → Option (Exit × AS)
 | some (.exit i, S) => cond (Nat.beq i id) (some (.normal, S)) (some (.exit i, S))
 | r => r
def cBlock (id : Nat) (b : CK) : CK := fun S => zsq id (b S)
def iterK (body : CK) (n : Nat) : CK := Nat.rec (motive := fun _ => CK) (fun _ => none) (fun _ ih S => zot ih (body S)) n
def cLoop (n : Nat) (b : CK) : CK := iterK b n
def cRange (P : Program) (E : Env) (R : Rec) (rd : Option (Nat × Nat)) (g : Arg) (ps : List Nat) (ca cb : Code) : CK := fun S => zfg P E R rd (.rangeFunc g ps ca cb .skip .skip) S
def cExit (id : Nat) : CK := fun S => some (.exit id, S)
def cRet : CK := fun S => some (.ret, S)
def cRefuse : CK := fun _ => none
def zjf (P : Program) (E : Env) (R : Rec) (rd : Option (Nat × Nat)) (ic : IC) : CK :=
 IC.rec (motive := fun _ => CK) cSkip (cReg P E R) (fun _ _ a b => cSeq a b) (fun c _ _ a b => cCond c a b) (fun id _ b => cBlock id b) (fun _ b => cLoop E.fuel b)
  (fun g ps ca cb _ _ _ _ => cRange P E R rd g ps ca cb) cExit cRet cRefuse ic
theorem zpr (body body' : CK) (h : ∀ S, body S = body' S) : ∀ (n : Nat) (S : AS), iterK body n S = iter body' n S
 | 0, S => rfl
 | n + 1, S => by
  show zot (iterK body n) (body S) = iter body' (n + 1) S
  rw [h S, iter]
  cases body' S with
  | none => rfl
  | some r => obtain ⟨e, S1⟩ := r; cases e <;> first | exact zpr body body' h n S1 | rfl
theorem zqb (P : Program) (E : Env) (R : Rec) (rd : Option (Nat × Nat)) (ic : IC) : ∀ S, zjf P E R rd ic S = zfg P E R rd ic S := by
 induction ic with
 | skip => intro S; rfl
 | region ios d =>
  intro S
  cases d with
  | none => show normK (zvt P E R ios S) = _; rw [zqc, zfg]; cases zrz P E R ios S <;> rfl
  | some pres =>
   show normK (runDK P E R ios pres S (zlk E ios pres S.size)) = _
   have : runDK P E R ios pres S (zlk E ios pres S.size) = runD P E R ios pres S := by
    unfold runD
    cases zlk E ios pres S.size with
    | none => rfl
    | some fl => simp only [runDK, zqd]; cases zd3 P E R ios fl S <;> rfl
   rw [this, zfg]; cases runD P E R ios pres S <;> rfl
 | seq a b iha ihb =>
  intro S
  show zot (zjf P E R rd b) (zjf P E R rd a S) = _
  rw [iha, zfg]
  cases zfg P E R rd a S with
  | none => rfl
  | some r => obtain ⟨e, S1⟩ := r; cases e <;> first | exact ihb S1 | rfl
 | cond c a b iha ihb =>
  intro S
  show condK (zjf P E R rd a) (zjf P E R rd b) S (zch S c) = _
  rw [zan, zfg]
  cases S.arg c with
  | none => rfl
  | some v => cases v <;> first | rfl | (rename_i t; cases t <;> first | exact iha S | exact ihb S)
 | block id b ih =>
  intro S
  show zsq id (zjf P E R rd b S) = _
  rw [ih, zfg]
  cases zfg P E R rd b S with
  | none => rfl
  | some r =>
   obtain ⟨e, S1⟩ := r
   cases e <;> first
    | rfl
    | (
      rename_i i
      simp only [zsq]
      by_cases h : i = id
      ·rw [if_pos h, show Nat.beq i id = true from by rw [h]; exact y2a id]; rfl
      ·rw [if_neg h, show Nat.beq i id = false from by cases hb : Nat.beq i id with | false => rfl | true => exact absurd (y0o hb) h]; rfl)
 | loop b ih =>
  intro S
  show iterK (zjf P E R rd b) E.fuel S = _
  rw [zfg]
  exact zpr _ _ ih _ S
 | rangeFunc g ps ca cb a b _ _ => intro S; show zfg P E R rd (.rangeFunc g ps ca cb .skip .skip) S = _; simp only [zfg]
 | exit id => intro S; rfl
 | ret => intro S; rfl
 | refuse => intro S; rfl
def endK (i : FnI) : Option (Exit × AS) → Option (AV × HS)
 | some (e, S') => cond (isOut e) (match S'.leave.res i.res with
  | some v => some (v, S'.leave.hs)
  | none => none) none
 | none => none
def bodyK (P : Program) (E : Env) (R : Rec) (i : FnI) (args : List AV) (H : HS) : Option (AV × HS) :=
 cond (Nat.ble args.length i.size) (endK i (zjf P E R none i.ic (AS.enter i.size args H))) none
def fnK (P : Program) (E : Env) (R : Rec) (args : List AV) (H : HS) : Option FnI → Option (AV × HS)
 | some i => bodyK P E R i args H
 | none => none
def sumK (P : Program) (E : Env) (R : Rec) (f : FuncId) (args : List AV) (H : HS) : Option (AV × HS) → Option (AV × HS)
 | some r => some r
 | none => fnK P E R args H (E.fn f)
def runFK (P : Program) (E : Env) (R : Rec) (f : FuncId) (args : List AV) (H : HS) : Option (AV × HS) := sumK P E R f args H (E.sum f args H)
theorem runFK_eq (P : Program) (E : Env) (R : Rec) (f : FuncId) (args : List AV) (H : HS) : runFK P E R f args H = runF P E R f args H := by
 unfold runFK runF
 cases E.sum f args H with
 | some r => rfl
 | none =>
  simp only [sumK]
  cases E.fn f with
  | none => rfl
  | some i =>
   simp only [fnK, bodyK, zqb]
   by_cases h : args.length ≤ i.size
   ·rw [if_pos h, show Nat.ble args.length i.size = true from Nat.ble_eq_true_of_le h]
    simp only [cond_true]
    cases zfg P E R none i.ic (AS.enter i.size args H) with
    | none => rfl
    | some r => obtain ⟨e, S'⟩ := r; simp only [endK]; cases isOut e <;> rfl
   ·rw [if_neg h, show Nat.ble args.length i.size = false from by cases hb : Nat.ble args.length i.size with | false => rfl | true => exact absurd (y1l hb) h]; rfl
def lvlK (P : Program) (E : Env) (n : Nat) : Rec :=
 Nat.rec ⟨fun _ _ _ => none, fun _ _ _ => none⟩ (fun _ R => ⟨runFK P E R, zjf P E R⟩) n
theorem zuv (P : Program) (E : Env) (n : Nat) : lvlK P E n = lvl P E n := by
 induction n with
 | zero => rfl
 | succ n ih =>
  show (⟨runFK P E (lvlK P E n), zjf P E (lvlK P E n)⟩ : Rec) = ⟨runF P E (lvl P E n), zfg P E (lvl P E n)⟩
  rw [ih]
  congr 1
  ·funext f a H; exact runFK_eq ..
  ·funext rd ic S; exact zqb ..
def seeK (v : AV) : Option (AV × HS) → Bool
 | some (v0, H) => AV.beq ((⟨0, .nil, H.heap, H.next, H.clk, []⟩ : AS).view VD v0) v
 | none => false
def zke (P : Program) (E : Env) (n : Nat) (f : FuncId) (args : List AV) (v : AV) : Bool := seeK v ((lvlK P E n).f f args ⟨[], 0, 0⟩)
theorem zr1 (P : Program) (E : Env) (n : Nat) (f : FuncId) (args : List AV) (v : AV) : zke P E n f args v = zp8 P E n f args v := by
 unfold zke zp8
 rw [zuv]
 cases (lvl P E n).f f args ⟨[], 0, 0⟩ with
 | none => rfl
 | some r => rfl
theorem zs2 {P : Program} {E : Env} (hE : EnvOk P E) {n : Nat} {f : FuncId} {args : List AV} {v : AV} (h : zke P E n f args v = true) : PF P f args v :=
 zlr hE (by rw [← zr1]; exact h)
end
noncomputable section
abbrev Tab := List (FuncId × List (List AV × AV))
def ztq (f : FuncId) (T : Tab) : Option (List (List AV × AV)) :=
 List.rec (motive := fun _ => Option (List (List AV × AV))) none (fun x _ ih => Bool.rec (motive := fun _ => Option (List (List AV × AV))) ih (some x.2) (Nat.beq x.1 f)) T
def findA (args : List AV) (l : List (List AV × AV)) : Option AV :=
 List.rec (motive := fun _ => Option AV) none (fun x _ ih => Bool.rec (motive := fun _ => Option AV) ih (some x.2) (zna x.1 args)) l
def findT (T : Tab) (f : FuncId) (args : List AV) : Option AV := Option.rec (motive := fun _ => Option AV) none (fun l => findA args l) (ztq f T)
def TabOk (P : Program) (T : Tab) : Prop := ∀ x ∈ T, ∀ y ∈ x.2, PF P x.1 y.1 y.2
theorem zme {f : FuncId} : ∀ {T : Tab} {l : List (List AV × AV)}, ztq f T = some l → (f, l) ∈ T
 | [], l, h => by cases h
 | x :: T, l, h => by
  have e : ztq f (x :: T) = Bool.rec (motive := fun _ => Option (List (List AV × AV))) (ztq f T) (some x.2) (Nat.beq x.1 f) := rfl
  rw [e] at h
  cases hb : Nat.beq x.1 f with
  | true =>
   rw [hb] at h
   injection h with h
   obtain ⟨a, b⟩ := x
   have : a = f := y0o hb
   subst this
   subst h
   exact y08 ..
  | false => rw [hb] at h; exact y06 _ (zme h)
theorem zmd {args : List AV} {v : AV} : ∀ {l : List (List AV × AV)}, findA args l = some v → (args, v) ∈ l
 | [], h => by cases h
 | x :: l, h => by
  have e : findA args (x :: l) = Bool.rec (motive := fun _ => Option AV) (findA args l) (some x.2) (zna x.1 args) := rfl
  rw [e] at h
  cases hb : zna x.1 args with
  | true =>
   rw [hb] at h
   injection h with h
   obtain ⟨a, b⟩ := x
   have : a = args := zc3 _ _ hb
   subst this
   subst h
   exact y08 ..
  | false => rw [hb] at h; exact y06 _ (zmd h)
theorem findT_ok {P : Program} {T : Tab} (hT : TabOk P T) {f : FuncId} {args : List AV} {v : AV} (h : findT T f args = some v) : PF P f args v := by
 unfold findT at h
 cases hl : ztq f T with
 | none => rw [hl] at h; cases h
 | some l => rw [hl] at h; exact hT _ (zme hl) _ (zmd h)
def Env.tab (E : Env) (T : Tab) (pure : List Nat) : Env := { E with orc := findT T, pure := fun f => pure.any (Nat.beq f), known := fun f => pure.any (Nat.beq f) || T.any fun x => Nat.beq x.1 f }
theorem EnvOk.tab {P : Program} {E : Env} (h : EnvOk P E) {T : Tab} (hT : TabOk P T) {pure : List Nat} : EnvOk P (E.tab T pure) :=
 ⟨h.fn, fun _ _ _ e => findT_ok hT e, h.sum, h.mix⟩
def allRun (P : Program) (E : Env) (n : Nat) (T : Tab) : Bool := T.all fun x => x.2.all fun y => zke P E n x.1 y.1 y.2
theorem TabOk.of_run {P : Program} {E : Env} (hE : EnvOk P E) {n : Nat} {T : Tab} (h : allRun P E n T = true) : TabOk P T :=
 fun x hx y hy => zs2 hE (y0e.1 (y0e.1 h x hx) y hy)
theorem TabOk.nil {P : Program} : TabOk P [] := fun x hx => by cases hx
theorem TabOk.append {P : Program} {T U : Tab} (h : TabOk P T) (k : TabOk P U) : TabOk P (T ++ U) := fun x hx => by
 rcases y0p.1 hx with hx | hx
 ·exact h x hx
 ·exact k x hx
end
end Go.Am
