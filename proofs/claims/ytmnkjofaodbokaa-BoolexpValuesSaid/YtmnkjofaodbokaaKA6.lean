/-
  AN ABSTRACT MACHINE FOR PROOFS, PART 6. A general base for proofs: no program is named here.
-/
import Derived.Test.YtmnkjofaodbokaaKA5
namespace Go.Am
open Go Go.RowKit
def fnOf (P : Program) (fn : Func) : Option FnI :=
 match fn.body with
 | some code => match zfy P code, zeu P fn.results.toList with
  | some ic, some ras => if fn.name == "runtime.NumGoroutine" then none else some ⟨fn.ntmps, ic, ras⟩
  | _, _ => none
 | none => none
def envOf (P : Program) (fuel : Nat) : Env :=
 ⟨fun f => match P.funcs[f]? with
  | some fn => fnOf P fn
  | none => none, fun _ _ => none, fun _ _ _ => none, fun _ => false, fun _ => false, fuel⟩
theorem ent_of {P : Program} {f : FuncId} {fn : Func} {code : Code} (hf : P.funcs[f]? = some fn) (hb : fn.body = some code) (hn : (fn.name == "runtime.NumGoroutine") = false) : Ent P f := by
 intro args w
 unfold callFunc
 have hp : (program : Sem Program).run P w = .ok P w := rfl
 simp only [Sem.run_bind, hp, Result.andThen_ok, hf]
 rw [if_neg (by rw [hn]; simp), if_neg (by rw [hb]; simp)]
 rfl
theorem fnOf_ok {P : Program} {f : FuncId} {fn : Func} {i : FnI} (hf : P.funcs[f]? = some fn) (h : fnOf P fn = some i) :
  ∃ fn code, P.funcs[f]? = some fn ∧ fn.body = some code ∧ zfy P code = some i.ic ∧ fn.ntmps = i.size ∧ zeu P fn.results.toList = some i.res ∧ Ent P f := by
 unfold fnOf at h
 split at h <;> try cases h
 rename_i code hc
 split at h <;> try cases h
 rename_i ic ras h1 h2
 split at h <;> try cases h
 rename_i hn
 exact ⟨fn, code, hf, hc, h1, rfl, h2, ent_of hf hc (by simpa using hn)⟩
theorem envOf_ok {P : Program} (fuel : Nat) (hm : P.follows .mixedOrders = true) : EnvOk P (envOf P fuel) := by
 refine ⟨fun f i h => ?_, fun f args v h => (by cases h), fun f args H v H' h => (by cases h), hm⟩
 simp only [envOf] at h
 split at h
 ·rename_i fn hf; exact fnOf_ok hf h
 ·cases h
def tabO : List (FuncId × List AV × AV) → FuncId → List AV → Option AV
 | [], _, _ => none
 | (g, as, v) :: l, f, args => if Nat.beq g f then (if zma as args then some v else tabO l f args) else tabO l f args
theorem zt0 {P : Program} : ∀ {l : List (FuncId × List AV × AV)}, (∀ x ∈ l, PF P x.1 x.2.1 x.2.2) → ∀ {f : FuncId} {args : List AV} {v : AV}, tabO l f args = some v → PF P f args v
 | [], _, f, args, v, h => by simp [tabO] at h
 | (g, as, u) :: l, hl, f, args, v, h => by
  have ih := fun h => zt0 (fun x hx => hl x (List.mem_cons_of_mem _ hx)) (f := f) (args := args) (v := v) h
  simp only [tabO] at h
  split at h
  ·rename_i h1
   split at h
   ·rename_i h2
    simp only [Option.some.injEq] at h; subst h
    have e1 : g = f := Nat.eq_of_beq_eq_true h1
    have e2 := zct _ _ h2
    subst e1 e2
    exact hl _ (List.mem_cons_self ..)
   ·exact ih h
  ·exact ih h
def Env.with (E : Env) (l : List (FuncId × List AV × AV)) (pure : List Nat) : Env := { E with orc := tabO l, pure := fun f => pure.any (Nat.beq f), known := fun f => pure.any (Nat.beq f) || l.any fun x => Nat.beq x.1 f }
theorem EnvOk.with {P : Program} {E : Env} (h : EnvOk P E) {l : List (FuncId × List AV × AV)} {pure : List Nat} (hl : ∀ x ∈ l, PF P x.1 x.2.1 x.2.2) : EnvOk P (E.with l pure) :=
 ⟨h.fn, fun _ _ _ e => zt0 hl e, h.sum, h.mix⟩
def znp (P : Program) (E : Env) (n : Nat) (f : FuncId) (args : List AV) (v : AV) : Bool :=
 match (lvl P E n).f f args ⟨[], 0, 0⟩ with
 | some (v0, H) => AV.beq ((⟨0, .nil, H.heap, H.next, H.clk, []⟩ : AS).view VD v0) v
 | none => false
theorem zl1 {P : Program} {E : Env} (hE : EnvOk P E) {n : Nat} {f : FuncId} {args : List AV} {v : AV} (h : znp P E n f args v = true) : PF P f args v := by
 unfold znp at h
 split at h
 ·rename_i v0 H hr
  refine znc fun w0 N0 => ((lvl_ok hE n).1 _ _ _ _ _ hr w0 N0).mono fun v1 H1 ⟨e1, e2⟩ => ?_
  subst e1 e2
  exact AV.eq_of_beq _ _ h
 ·cases h
end Go.Am
namespace Go.Am
open Go Go.RowKit
noncomputable section
def setV (o : Option AV) (t : TM) : TM := TM.rec (motive := fun _ => TM) (.nd o .nil .nil) (fun _ l r _ _ => .nd o l r) t
def setL (ih : TM → TM) (t : TM) : TM := TM.rec (motive := fun _ => TM) (.nd none (ih .nil) .nil) (fun v l r _ _ => .nd v (ih l) r) t
def setR (ih : TM → TM) (t : TM) : TM := TM.rec (motive := fun _ => TM) (.nd none .nil (ih .nil)) (fun v l r _ _ => .nd v l (ih r)) t
def zpl (o : Option AV) (p : List Bool) : TM → TM := List.rec (motive := fun _ => TM → TM) (setV o) (fun b _ ih => Bool.rec (motive := fun _ => TM → TM) (setL ih) (setR ih) b) p
theorem setPK_eq (o : Option AV) (p : List Bool) : zpl o p = TM.setP o p := by
 induction p with
 | nil => funext t; cases t <;> rfl
 | cons b p ih =>
  show Bool.rec (motive := fun _ => TM → TM) (setL (zpl o p)) (setR (zpl o p)) b = zsu b (TM.setP o p)
  rw [ih]
  funext t
  cases b <;> cases t <;> rfl
def putK (dst : Option Nat) : AV → AS → AS := match dst with
 | some d => fun v S => ⟨S.size, zpl (some v) (zf2 d) S.tmps, S.heap, S.next, S.clk, S.marks⟩
 | none => fun _ S => S
theorem zsh (dst : Option Nat) (v : AV) (S : AS) : putK dst v S = S.put dst v := by
 cases dst with
 | none => rfl
 | some d => simp only [putK, AS.put, setPK_eq]; rfl
def zsb (dst : Option Nat) : Nat → Bool := match dst with
 | some d => Nat.ble (Nat.succ d)
 | none => fun _ => true
theorem zsc (dst : Option Nat) (n : Nat) : zsb dst n = zd2 n dst := by
 cases dst with
 | none => rfl
 | some d => simp only [zsb, zd2]; rw [Bool.eq_iff_iff, Nat.ble_eq, decide_eq_true_iff]; exact Iff.rfl
abbrev KS := AV → AS → Option AS
def putS (d : Nat) (ih : AS → Option AS) (v : AV) (S : AS) : Option AS :=
 AS.rec (motive := fun _ => Option AS) (fun size tmps heap next clk marks => Bool.rec (motive := fun _ => Option AS) none (ih ⟨size, zpl (some v) (zf2 d) tmps, heap, next, clk, marks⟩) (Nat.ble (Nat.succ d) size)) S
def putN (ih : AS → Option AS) (_ : AV) (S : AS) : Option AS := ih S
def putC (dst : Option Nat) : (AS → Option AS) → KS := Option.rec (motive := fun _ => (AS → Option AS) → KS) putN putS dst
theorem zsg (dst : Option Nat) (ih : AS → Option AS) (v : AV) (S : AS) : putC dst ih v S = if zd2 S.size dst then ih (S.put dst v) else none := by
 cases dst with
 | none => rfl
 | some d =>
  obtain ⟨size, tmps, heap, next, clk, marks⟩ := S
  show Bool.rec (motive := fun _ => Option AS) none (ih (putK (some d) v ⟨size, tmps, heap, next, clk, marks⟩)) (zsb (some d) size) = _
  rw [zsc, zsh]
  cases zd2 size (some d) <;> rfl
def zt7 (k : KS) (o : Option (AV × AS)) : Option AS := Option.rec (motive := fun _ => Option AS) none (fun x => Prod.rec (motive := fun _ => Option AS) (fun v S1 => k v S1) x) o
abbrev Arm := Program → Env → Rec → KS → AS → Option AS
def zce (f : AS → Option (AV × AS)) (_ : Program) (_ : Env) (_ : Rec) (k : KS) (S : AS) : Option AS := zt7 k (f S)
def zs7 (k : KS) (S : AS) (v : AV) (H : HS) : Option AS := match S with
 | ⟨size, tmps, _, _, _, marks⟩ => match H with
  | ⟨heap, next, clk⟩ => cond (zg4 marks heap) (k v ⟨size, tmps, heap, next, clk, marks⟩) none
def callK2 (k : KS) (S : AS) : Option (AV × HS) → Option AS
 | some (v, H) => zs7 k S v H
 | none => none
def callK1 (P : Program) (R : Rec) (k : KS) (S : AS) (fv : AV) (vs : List AV) : Option AV → Option AS
 | some v => k v S
 | none => callK2 k S (zqt P R fv vs S.hs)
def callK (P : Program) (E : Env) (R : Rec) (k : KS) (S : AS) (fv : AV) (vs : List AV) : Option AS := callK1 P R k S fv vs (zdl E R S fv vs)
def zjn (P : Program) (E : Env) (R : Rec) (k : KS) (S : AS) (vs : Option (List AV)) : Option AV → Option AS
 | some fv => match vs with
  | some vs => callK P E R k S fv vs
  | none => none
 | none => none
def wrapC (fa : Arg) (args : List Arg) (P : Program) (E : Env) (R : Rec) (k : KS) (S : AS) : Option AS := zjn P E R k S (zl7 S args) (zcx S fa)
def opK (op : IOp) : Arm := IOp.rec (motive := fun _ => Arm)
 (fun a => zce (i_mov a))
 (fun a b c => zce (zrw a b c))
 (fun a => zce (zmn a))
 (fun a => zce (i_box a))
 (fun a b => zce (zmo a b))
 (fun a b c d => zce (zk9 a b c d))
 (fun a b => zce (zrs a b))
 (fun a b c => zce (zmw a b c))
 (fun a => zce (zkg a))
 (fun a b c => zce (i_bin a b c))
 (fun a b c => zce (i_eqb a b c))
 (fun a b c d => zce (i_eqs a b c d))
 (fun a b => zce (i_un a b))
 (fun a b => zce (zro a b))
 (fun a b c => zce (zrt a b c))
 (fun a b c d e => zce (zib a b c d e))
 (fun a b c d e => zce (zrx a b c d e))
 (fun a b c d e => zce (zmu a b c d e))
 (fun a b c => zce (zmv a b c))
 (fun a b => zce (zmq a b))
 (fun a b c => zce (zmr a b c))
 (fun a b c => zce (zrq a b c))
 (fun a b c d => zce (zkb a b c d))
 (fun a b c d e => zce (zka a b c d e))
 (fun a b => zce (zkc a b))
 (fun a b => zce (zia a b))
 (fun a b => zce (i_len a b))
 (fun a => zce (zrr a))
 (fun a b c d e => zce (zk8 a b c d e))
 (fun a b c d e => zce (zi9 a b c d e))
 (fun a => zce (zrn a))
 (fun a b => zce (zru a b))
 (zce zms)
 (fun a b c d => zce (zke a b c d))
 (fun a b c d e => zce (zkd a b c d e))
 (fun a b c => zce (zrp a b c))
 (fun a b c => zce (zmp a b c))
 (fun a b => zce (zkf a b))
 (fun a b => zce (zrm a b))
 (fun a b c => zce (i_peq a b c))
 (fun a b => zce (zry a b))
 (fun a => zce (zmt a))
 (fun a b c => zce (zrz a b c))
 (fun a b c d => zce (zi8 a b c d))
 (fun a b => wrapC a b)
 (zce zrv)
 op
def resK (S : AS) (k : KS) : Option (AV × HS) → Option AS
 | some (v, H) => k v (S.withH H)
 | none => none
theorem opK_eq (P : Program) (E : Env) (R : Rec) (k : KS) (S : AS) (io : Opr) : opK io.op P E R k S = resK S k (zds P E R S io) := by
 obtain ⟨dst, op, guard⟩ := io
 by_cases hc : ∃ fa args, op = .call fa args
 ·obtain ⟨fa, args, rfl⟩ := hc
  show wrapC fa args P E R k S = _
  simp only [wrapC, zbk, zfv, zds, zc0, zfj]
  cases S.arg fa with
  | none => rfl
  | some fv => cases S.args args with
   | none => rfl
   | some vs =>
    simp only [zjn, callK]
    cases zdl E R S fv vs with
    | some v => rfl
    | none =>
     simp only [callK1]
     cases zqt P R fv vs S.hs with
     | none => rfl
     | some r =>
      obtain ⟨v, H⟩ := r
      show zs7 k S v H = _
      obtain ⟨size, tmps, heap, next, clk, marks⟩ := S
      obtain ⟨h1, h2, h3⟩ := H
      simp only [zs7]
      cases zg4 marks h1 <;> rfl
 ·have h1 : opK op P E R k S = zt7 k (iop S op) := by
   rw [← zs0]
   cases op <;> first
    | rfl
    | exact absurd ⟨_, _, rfl⟩ hc
  rw [h1]
  have h2 : zc0 E R S ⟨dst, op, guard⟩ = if zcg op then none else (iop S op).map (·.1) := by
   cases op <;> first
    | rfl
    | exact absurd ⟨_, _, rfl⟩ hc
  have h3 : zfj P R S ⟨dst, op, guard⟩ = match iop S op with | some (v, S1) => some (v, S1.hs) | none => none := by
   cases op <;> first
    | rfl
    | exact absurd ⟨_, _, rfl⟩ hc
  simp only [zds, h2, h3]
  by_cases hl : zcg op = true
  ·rw [if_pos hl]
   cases hi : iop S op with
   | none => rfl
   | some r =>
    obtain ⟨v, S1⟩ := r
    show k v S1 = k v (S.withH S1.hs)
    rw [← zh8 hi]
  ·rw [if_neg hl]
   cases hi : iop S op with
   | none => rfl
   | some r =>
    obtain ⟨v, S1⟩ := r
    obtain rfl := zg2 (by simpa using hl) hi
    rfl
def zqo (o : Option AV) (b : Bool) : Option Bool := match o with
 | some (.bool x) => some (x == b)
 | some (.tup _) => some false
 | _ => none
def zl0 (g : Option (Nat × Bool)) : AS → Option Bool := match g with
 | none => fun _ => some true
 | some (d, b) => fun S => zqo (argT d S) b
theorem argT_eq (d : Nat) (S : AS) : argT d S = S.get d := zbk S (.t d)
theorem zjq (S : AS) (io : Opr) : zl0 io.guard S = zbj S io := by
 unfold zbj
 cases io.guard with
 | none => rfl
 | some g => obtain ⟨d, b⟩ := g; simp only [zl0, argT_eq]; cases S.get d with
  | none => rfl
  | some v => cases v <;> rfl
def runW (dst : Option Nat) (ih : AS → Option AS) (P : Program) (E : Env) (R : Rec) (op : IOp) (S : AS) : Option Bool → Option AS
 | some true => opK op P E R (putC dst ih) S
 | some false => putC dst ih (.tup []) S
 | none => none
def runG (dst : Option Nat) (op : IOp) (guard : Option (Nat × Bool)) (P : Program) (E : Env) (R : Rec) (ih : AS → Option AS) (S : AS) : Option AS :=
 Option.rec (motive := fun _ => Option AS) (opK op P E R (putC dst ih) S) (fun g => runW dst ih P E R op S (zqo (argT g.1 S) g.2)) guard
def zn7 (P : Program) (E : Env) (R : Rec) (io : Opr) (ih : AS → Option AS) : AS → Option AS := Opr.rec (motive := fun _ => AS → Option AS) (fun dst op guard => runG dst op guard P E R ih) io
def zsm (P : Program) (E : Env) (R : Rec) (ios : List Opr) : AS → Option AS := List.rec (motive := fun _ => AS → Option AS) some (fun io _ ih => zn7 P E R io ih) ios
theorem zom (P : Program) (E : Env) (R : Rec) : ∀ (ios : List Opr) (S : AS), zsm P E R ios S = zpw P E R ios S
 | [], S => rfl
 | io :: ios, S => by
  show zn7 P E R io (zsm P E R ios) S = _
  have ih : zsm P E R ios = zpw P E R ios := funext fun S => zom P E R ios S
  rw [ih]
  have h : zn7 P E R io (zpw P E R ios) S = runW io.dst (zpw P E R ios) P E R io.op S (zl0 io.guard S) := by
   obtain ⟨dst, op, guard⟩ := io
   cases guard with
   | none => rfl
   | some g => rfl
  rw [h, zjq, zpw]
  cases zbj S io with
  | none => rfl
  | some b => cases b with
   | false => simp only [runW, zsg]
   | true =>
    simp only [runW, opK_eq]
    cases zds P E R S io with
    | none => rfl
    | some r => obtain ⟨v, H⟩ := r; simp only [resK, zsg]; rfl
def putD2 (d : Nat) (ih : AS → Option AS) (v : AV) (S : AS) : Option AS :=
 AS.rec (motive := fun _ => Option AS) (fun size tmps heap next clk marks => ih ⟨size, zpl (some v) (zf2 d) tmps, heap, next, clk, marks⟩) S
def putN2 (dst : Option Nat) : (AS → Option AS) → KS := Option.rec (motive := fun _ => (AS → Option AS) → KS) putN putD2 dst
theorem zhc (dst : Option Nat) (ih : AS → Option AS) (v : AV) (S : AS) : putN2 dst ih v S = ih (S.put dst v) := by
 cases dst with
 | none => rfl
 | some d =>
  obtain ⟨size, tmps, heap, next, clk, marks⟩ := S
  show ih (putK (some d) v ⟨size, tmps, heap, next, clk, marks⟩) = _
  rw [zsh]
theorem opK_nc (P : Program) (E : Env) (R : Rec) (k : KS) (S : AS) (op : IOp) (hc : ¬ ∃ fa args, op = .call fa args) : opK op P E R k S = zt7 k (iop S op) := by
 rw [← zs0]
 cases op <;> first
  | rfl
  | exact absurd ⟨_, _, rfl⟩ hc
def optK (k : AV → AS → Option AS) (S : AS) : Option AV → Option AS
 | some v => k v S
 | none => none
def qCall0 (E : Env) (R : Rec) (k : KS) (S : AS) (vs : Option (List AV)) : Option AV → Option AS
 | some fv => match vs with
  | some vs => optK k S (zdl E R S fv vs)
  | none => none
 | none => none
def qCall (fa : Arg) (args : List Arg) (_ : Program) (E : Env) (R : Rec) (k : KS) (S : AS) : Option AS := qCall0 E R k S (zl7 S args) (zcx S fa)
def qOp (op : IOp) (P : Program) (E : Env) (R : Rec) (k : KS) (S : AS) : Option AS := cond (zcg op) none (opK op P E R k S)
def qK (op : IOp) : Arm := match op with
 | .call fa args => qCall fa args
 | op => qOp op
theorem qK_eq (P : Program) (E : Env) (R : Rec) (k : KS) (S : AS) (io : Opr) : qK io.op P E R k S = optK k S (zc0 E R S io) := by
 obtain ⟨dst, op, guard⟩ := io
 by_cases hc : ∃ fa args, op = .call fa args
 ·obtain ⟨fa, args, rfl⟩ := hc
  simp only [qK, qCall, zbk, zfv, zc0]
  cases S.arg fa with
  | none => rfl
  | some fv => cases S.args args <;> rfl
 ·have h1 : qK op P E R k S = cond (zcg op) none (zt7 k (iop S op)) := by
   rw [← opK_nc P E R k S op hc]
   cases op <;> first
    | rfl
    | exact absurd ⟨_, _, rfl⟩ hc
  have h2 : zc0 E R S ⟨dst, op, guard⟩ = if zcg op then none else (iop S op).map (·.1) := by
   cases op <;> first
    | rfl
    | exact absurd ⟨_, _, rfl⟩ hc
  rw [h1, h2]
  by_cases hl : zcg op = true
  ·rw [hl, if_pos rfl]; rfl
  ·rw [if_neg hl]
   rw [show zcg op = false by simpa using hl]
   cases hi : iop S op with
   | none => rfl
   | some r =>
    obtain ⟨v, S1⟩ := r
    obtain rfl := zg2 (by simpa using hl) hi
    rfl
def iCall1 (E : Env) (R : Rec) (k : KS) (S : AS) (vs : List AV) : AV → Option AS
 | .fn fid first cap => cond (hasM.hasML (first ++ vs ++ cap)) none (optK k S (zdl E R (S.withH zjc) (.fn fid first cap) vs))
 | _ => none
def iCall0 (E : Env) (R : Rec) (k : KS) (S : AS) (vs : Option (List AV)) : Option AV → Option AS
 | some fv => match vs with
  | some vs => iCall1 E R k S vs fv
  | none => none
 | none => none
def iCall (fa : Arg) (args : List Arg) (_ : Program) (E : Env) (R : Rec) (k : KS) (S : AS) : Option AS := iCall0 E R k S (zl7 S args) (zcx S fa)
def keepS (k : KS) (S : AS) : KS := fun v _ => k v S
def iOp (op : IOp) (P : Program) (E : Env) (R : Rec) (k : KS) (S : AS) : Option AS := cond (zcg op) none (opK op P E R (keepS k S) (S.withH zjc))
def iK (op : IOp) : Arm := match op with
 | .call fa args => iCall fa args
 | op => iOp op
theorem iK_eq (P : Program) (E : Env) (R : Rec) (k : KS) (S : AS) (io : Opr) : iK io.op P E R k S = optK k S (zfe E R S io) := by
 obtain ⟨dst, op, guard⟩ := io
 by_cases hc : ∃ fa args, op = .call fa args
 ·obtain ⟨fa, args, rfl⟩ := hc
  simp only [iK, iCall, zbk, zfv, zfe]
  cases S.arg fa with
  | none => rfl
  | some fv =>
   cases S.args args with
   | none => cases fv <;> rfl
   | some vs =>
    cases fv <;> try rfl
    rename_i fid first cap
    simp only [iCall0, iCall1]
    cases hasM.hasML (first ++ vs ++ cap) <;> rfl
 ·have h1 : iK op P E R k S = cond (zcg op) none (zt7 (keepS k S) (iop (S.withH zjc) op)) := by
   rw [← opK_nc P E R (keepS k S) (S.withH zjc) op hc]
   cases op <;> first
    | rfl
    | exact absurd ⟨_, _, rfl⟩ hc
  have h2 : zfe E R S ⟨dst, op, guard⟩ = if zcg op then none else (iop (S.withH zjc) op).map (·.1) := by
   cases op <;> first
    | rfl
    | exact absurd ⟨_, _, rfl⟩ hc
  rw [h1, h2]
  by_cases hl : zcg op = true
  ·rw [hl, if_pos rfl]; rfl
  ·rw [if_neg hl]
   rw [show zcg op = false by simpa using hl]
   cases hi : iop (S.withH zjc) op with
   | none => rfl
   | some r => rfl
def armS (op : IOp) (q ind : Bool) : Arm := Bool.rec (motive := fun _ => Arm) (opK op) (Bool.rec (motive := fun _ => Arm) (qK op) (iK op) ind) q
def runWS (dst : Option Nat) (ih : AS → Option AS) (P : Program) (E : Env) (R : Rec) (op : IOp) (q ind : Bool) (S : AS) : Option Bool → Option AS
 | some true => armS op q ind P E R (putN2 dst ih) S
 | some false => putN2 dst ih (.tup []) S
 | none => none
def runGS (dst : Option Nat) (op : IOp) (guard : Option (Nat × Bool)) (q ind : Bool) (P : Program) (E : Env) (R : Rec) (ih : AS → Option AS) (S : AS) : Option AS :=
 Option.rec (motive := fun _ => Option AS) (armS op q ind P E R (putN2 dst ih) S) (fun g => runWS dst ih P E R op q ind S (zqo (argT g.1 S) g.2)) guard
def runFlag (P : Program) (E : Env) (R : Rec) (io : Opr) (ih : List (Bool × Bool) → AS → Option AS) (fl : List (Bool × Bool)) (S : AS) : Option AS :=
 List.rec (motive := fun _ => Option AS) none (fun f fl' _ => runGS io.dst io.op io.guard f.1 f.2 P E R (ih fl') S) fl
def doneS (fl : List (Bool × Bool)) (S : AS) : Option AS := List.rec (motive := fun _ => Option AS) (some S) (fun _ _ _ => none) fl
def runSK (P : Program) (E : Env) (R : Rec) (ios : List Opr) : List (Bool × Bool) → AS → Option AS :=
 List.rec (motive := fun _ => List (Bool × Bool) → AS → Option AS) doneS (fun io _ ih => runFlag P E R io ih) ios
theorem zon (P : Program) (E : Env) (R : Rec) : ∀ (ios : List Opr) (fl : List (Bool × Bool)) (S : AS), runSK P E R ios fl S = zdb P E R ios fl S
 | [], [], S => rfl
 | [], _ :: _, S => rfl
 | io :: ios, [], S => rfl
 | io :: ios, (q, ind) :: fl, S => by
  have ih : runSK P E R ios fl = zdb P E R ios fl := funext fun S => zon P E R ios fl S
  show runGS io.dst io.op io.guard q ind P E R (runSK P E R ios fl) S = _
  rw [ih]
  have h : runGS io.dst io.op io.guard q ind P E R (zdb P E R ios fl) S = runWS io.dst (zdb P E R ios fl) P E R io.op q ind S (zl0 io.guard S) := by
   cases hg : io.guard <;> rfl
  rw [h, zjq, zdb]
  cases zbj S io with
  | none => rfl
  | some b => cases b with
   | false => simp only [runWS, zhc]
   | true =>
    simp only [runWS]
    cases q with
    | false =>
     show opK io.op P E R _ S = _
     rw [opK_eq]
     cases zds P E R S io with
     | none => rfl
     | some r => obtain ⟨v, H⟩ := r; simp only [resK, zhc]; rfl
    | true =>
     cases ind with
     | false =>
      show qK io.op P E R _ S = _
      rw [qK_eq]
      simp only [if_true, Bool.false_eq_true, if_false]
      cases zc0 E R S io with
      | none => rfl
      | some v => simp only [optK, zhc]
     | true =>
      show iK io.op P E R _ S = _
      rw [iK_eq]
      simp only [if_true]
      cases zfe E R S io with
      | none => rfl
      | some v => simp only [optK, zhc]
def runDK (P : Program) (E : Env) (R : Rec) (ios : List Opr) (pres : List (List Nat)) (S : AS) : Option (List (Bool × Bool)) → Option AS
 | some fl => match runSK P E R ios fl S with
  | some S1 => some S1
  | none => zgx P E R ios pres S
 | none => zgx P E R ios pres S
abbrev CK := AS → Option (Exit × AS)
def normK : Option AS → Option (Exit × AS)
 | some S => some (.normal, S)
 | none => none
def cSkip : CK := fun S => some (.normal, S)
def cReg (P : Program) (E : Env) (R : Rec) (ios : List Opr) (d : Option (List (List Nat))) : CK := match d with
 | none => fun S => normK (zsm P E R ios S)
 | some pres => fun S => normK (runDK P E R ios pres S (zkt E ios pres S.size))
def znf (k : CK) : Option (Exit × AS) → Option (Exit × AS)
 | some (.normal, S) => k S
 | r => r
def cSeq (a b : CK) : CK := fun S => znf b (a S)
def condK (a b : CK) (S : AS) : Option AV → Option (Exit × AS)
 | some (.bool t) => cond t (a S) (b S)
 | _ => none
def cCond (c : Arg) (a b : CK) : CK := fun S => condK a b S (zcx S c)
def zqk (id : Nat) : Option (Exit × AS) → Option (Exit × AS)
 | some (.exit i, S) => cond (Nat.beq i id) (some (.normal, S)) (some (.exit i, S))
 | r => r
def cBlock (id : Nat) (b : CK) : CK := fun S => zqk id (b S)
def iterK (body : CK) (n : Nat) : CK := Nat.rec (motive := fun _ => CK) (fun _ => none) (fun _ ih S => znf ih (body S)) n
def cLoop (n : Nat) (b : CK) : CK := iterK b n
def cRange (P : Program) (E : Env) (R : Rec) (rd : Option (Nat × Nat)) (g : Arg) (ps : List Nat) (ca cb : Code) : CK := fun S => zfa P E R rd (.rangeFunc g ps ca cb .skip .skip) S
def cExit (id : Nat) : CK := fun S => some (.exit id, S)
def cRet : CK := fun S => some (.ret, S)
def cRefuse : CK := fun _ => none
def zj0 (P : Program) (E : Env) (R : Rec) (rd : Option (Nat × Nat)) (ic : IC) : CK :=
 IC.rec (motive := fun _ => CK) cSkip (cReg P E R) (fun _ _ a b => cSeq a b) (fun c _ _ a b => cCond c a b) (fun id _ b => cBlock id b) (fun _ b => cLoop E.fuel b)
  (fun g ps ca cb _ _ _ _ => cRange P E R rd g ps ca cb) cExit cRet cRefuse ic
theorem zo2 (body body' : CK) (h : ∀ S, body S = body' S) : ∀ (n : Nat) (S : AS), iterK body n S = iter body' n S
 | 0, S => rfl
 | n + 1, S => by
  show znf (iterK body n) (body S) = iter body' (n + 1) S
  rw [h S, iter]
  cases body' S with
  | none => rfl
  | some r => obtain ⟨e, S1⟩ := r; cases e <;> first | exact zo2 body body' h n S1 | rfl
theorem zol (P : Program) (E : Env) (R : Rec) (rd : Option (Nat × Nat)) (ic : IC) : ∀ S, zj0 P E R rd ic S = zfa P E R rd ic S := by
 induction ic with
 | skip => intro S; rfl
 | region ios d =>
  intro S
  cases d with
  | none => show normK (zsm P E R ios S) = _; rw [zom, zfa]; cases zpw P E R ios S <;> rfl
  | some pres =>
   show normK (runDK P E R ios pres S (zkt E ios pres S.size)) = _
   have : runDK P E R ios pres S (zkt E ios pres S.size) = runD P E R ios pres S := by
    unfold runD
    cases zkt E ios pres S.size with
    | none => rfl
    | some fl => simp only [runDK, zon]; cases zdb P E R ios fl S <;> rfl
   rw [this, zfa]; cases runD P E R ios pres S <;> rfl
 | seq a b iha ihb =>
  intro S
  show znf (zj0 P E R rd b) (zj0 P E R rd a S) = _
  rw [iha, zfa]
  cases zfa P E R rd a S with
  | none => rfl
  | some r => obtain ⟨e, S1⟩ := r; cases e <;> first | exact ihb S1 | rfl
 | cond c a b iha ihb =>
  intro S
  show condK (zj0 P E R rd a) (zj0 P E R rd b) S (zcx S c) = _
  rw [zbk, zfa]
  cases S.arg c with
  | none => rfl
  | some v => cases v <;> first | rfl | (rename_i t; cases t <;> first | exact iha S | exact ihb S)
 | block id b ih =>
  intro S
  show zqk id (zj0 P E R rd b S) = _
  rw [ih, zfa]
  cases zfa P E R rd b S with
  | none => rfl
  | some r =>
   obtain ⟨e, S1⟩ := r
   cases e <;> first
    | rfl
    | (
      rename_i i
      simp only [zqk]
      by_cases h : i = id
      ·rw [if_pos h, show Nat.beq i id = true from by rw [h]; exact Nat.beq_refl id]; rfl
      ·rw [if_neg h, show Nat.beq i id = false from by cases hb : Nat.beq i id with | false => rfl | true => exact absurd (Nat.eq_of_beq_eq_true hb) h]; rfl)
 | loop b ih =>
  intro S
  show iterK (zj0 P E R rd b) E.fuel S = _
  rw [zfa]
  exact zo2 _ _ ih _ S
 | rangeFunc g ps ca cb a b _ _ => intro S; show zfa P E R rd (.rangeFunc g ps ca cb .skip .skip) S = _; simp only [zfa]
 | exit id => intro S; rfl
 | ret => intro S; rfl
 | refuse => intro S; rfl
def endK (i : FnI) : Option (Exit × AS) → Option (AV × HS)
 | some (e, S') => cond (isOut e) (match S'.leave.res i.res with
  | some v => some (v, S'.leave.hs)
  | none => none) none
 | none => none
def bodyK (P : Program) (E : Env) (R : Rec) (i : FnI) (args : List AV) (H : HS) : Option (AV × HS) :=
 cond (Nat.ble args.length i.size) (endK i (zj0 P E R none i.ic (AS.enter i.size args H))) none
def fnK (P : Program) (E : Env) (R : Rec) (args : List AV) (H : HS) : Option FnI → Option (AV × HS)
 | some i => bodyK P E R i args H
 | none => none
def sumK (P : Program) (E : Env) (R : Rec) (f : FuncId) (args : List AV) (H : HS) : Option (AV × HS) → Option (AV × HS)
 | some r => some r
 | none => fnK P E R args H (E.fn f)
def runFK (P : Program) (E : Env) (R : Rec) (f : FuncId) (args : List AV) (H : HS) : Option (AV × HS) := sumK P E R f args H (E.sum f args H)
theorem runFK_eq (P : Program) (E : Env) (R : Rec) (f : FuncId) (args : List AV) (H : HS) : runFK P E R f args H = runF P E R f args H := by
 unfold runFK runF
 cases E.sum f args H with
 | some r => rfl
 | none =>
  simp only [sumK]
  cases E.fn f with
  | none => rfl
  | some i =>
   simp only [fnK, bodyK, zol]
   by_cases h : args.length ≤ i.size
   ·rw [if_pos h, show Nat.ble args.length i.size = true from Nat.ble_eq_true_of_le h]
    simp only [cond_true]
    cases zfa P E R none i.ic (AS.enter i.size args H) with
    | none => rfl
    | some r => obtain ⟨e, S'⟩ := r; simp only [endK]; cases isOut e <;> rfl
   ·rw [if_neg h, show Nat.ble args.length i.size = false from by cases hb : Nat.ble args.length i.size with | false => rfl | true => exact absurd (Nat.le_of_ble_eq_true hb) h]; rfl
def lvlK (P : Program) (E : Env) (n : Nat) : Rec :=
 Nat.rec ⟨fun _ _ _ => none, fun _ _ _ => none⟩ (fun _ R => ⟨runFK P E R, zj0 P E R⟩) n
theorem lvlK_eq (P : Program) (E : Env) (n : Nat) : lvlK P E n = lvl P E n := by
 induction n with
 | zero => rfl
 | succ n ih =>
  show (⟨runFK P E (lvlK P E n), zj0 P E (lvlK P E n)⟩ : Rec) = ⟨runF P E (lvl P E n), zfa P E (lvl P E n)⟩
  rw [ih]
  congr 1
  ·funext f a H; exact runFK_eq ..
  ·funext rd ic S; exact zol ..
def seeK (v : AV) : Option (AV × HS) → Bool
 | some (v0, H) => AV.beq ((⟨0, .nil, H.heap, H.next, H.clk, []⟩ : AS).view VD v0) v
 | none => false
def zjw (P : Program) (E : Env) (n : Nat) (f : FuncId) (args : List AV) (v : AV) : Bool := seeK v ((lvlK P E n).f f args ⟨[], 0, 0⟩)
theorem zp0 (P : Program) (E : Env) (n : Nat) (f : FuncId) (args : List AV) (v : AV) : zjw P E n f args v = znp P E n f args v := by
 unfold zjw znp
 rw [lvlK_eq]
 cases (lvl P E n).f f args ⟨[], 0, 0⟩ with
 | none => rfl
 | some r => rfl
theorem zpy {P : Program} {E : Env} (hE : EnvOk P E) {n : Nat} {f : FuncId} {args : List AV} {v : AV} (h : zjw P E n f args v = true) : PF P f args v :=
 zl1 hE (by rw [← zp0]; exact h)
end
end Go.Am
namespace Go.Am
open Go Go.RowKit
noncomputable section
abbrev Tab := List (FuncId × List (List AV × AV))
def zra (f : FuncId) (T : Tab) : Option (List (List AV × AV)) :=
 List.rec (motive := fun _ => Option (List (List AV × AV))) none (fun x _ ih => Bool.rec (motive := fun _ => Option (List (List AV × AV))) ih (some x.2) (Nat.beq x.1 f)) T
def findA (args : List AV) (l : List (List AV × AV)) : Option AV :=
 List.rec (motive := fun _ => Option AV) none (fun x _ ih => Bool.rec (motive := fun _ => Option AV) ih (some x.2) (zma x.1 args)) l
def findT (T : Tab) (f : FuncId) (args : List AV) : Option AV := Option.rec (motive := fun _ => Option AV) none (fun l => findA args l) (zra f T)
def TabOk (P : Program) (T : Tab) : Prop := ∀ x ∈ T, ∀ y ∈ x.2, PF P x.1 y.1 y.2
theorem zlf {f : FuncId} : ∀ {T : Tab} {l : List (List AV × AV)}, zra f T = some l → (f, l) ∈ T
 | [], l, h => by cases h
 | x :: T, l, h => by
  have e : zra f (x :: T) = Bool.rec (motive := fun _ => Option (List (List AV × AV))) (zra f T) (some x.2) (Nat.beq x.1 f) := rfl
  rw [e] at h
  cases hb : Nat.beq x.1 f with
  | true =>
   rw [hb] at h
   injection h with h
   obtain ⟨a, b⟩ := x
   have : a = f := Nat.eq_of_beq_eq_true hb
   subst this
   subst h
   exact List.mem_cons_self ..
  | false => rw [hb] at h; exact List.mem_cons_of_mem _ (zlf h)
theorem zle {args : List AV} {v : AV} : ∀ {l : List (List AV × AV)}, findA args l = some v → (args, v) ∈ l
 | [], h => by cases h
 | x :: l, h => by
  have e : findA args (x :: l) = Bool.rec (motive := fun _ => Option AV) (findA args l) (some x.2) (zma x.1 args) := rfl
  rw [e] at h
  cases hb : zma x.1 args with
  | true =>
   rw [hb] at h
   injection h with h
   obtain ⟨a, b⟩ := x
   have : a = args := zct _ _ hb
   subst this
   subst h
   exact List.mem_cons_self ..
  | false => rw [hb] at h; exact List.mem_cons_of_mem _ (zle h)
theorem findT_ok {P : Program} {T : Tab} (hT : TabOk P T) {f : FuncId} {args : List AV} {v : AV} (h : findT T f args = some v) : PF P f args v := by
 unfold findT at h
 cases hl : zra f T with
 | none => rw [hl] at h; cases h
 | some l => rw [hl] at h; exact hT _ (zlf hl) _ (zle h)
def Env.tab (E : Env) (T : Tab) (pure : List Nat) : Env := { E with orc := findT T, pure := fun f => pure.any (Nat.beq f), known := fun f => pure.any (Nat.beq f) || T.any fun x => Nat.beq x.1 f }
theorem EnvOk.tab {P : Program} {E : Env} (h : EnvOk P E) {T : Tab} (hT : TabOk P T) {pure : List Nat} : EnvOk P (E.tab T pure) :=
 ⟨h.fn, fun _ _ _ e => findT_ok hT e, h.sum, h.mix⟩
def allRun (P : Program) (E : Env) (n : Nat) (T : Tab) : Bool := T.all fun x => x.2.all fun y => zjw P E n x.1 y.1 y.2
theorem TabOk.of_run {P : Program} {E : Env} (hE : EnvOk P E) {n : Nat} {T : Tab} (h : allRun P E n T = true) : TabOk P T :=
 fun x hx y hy => zpy hE (List.all_eq_true.1 (List.all_eq_true.1 h x hx) y hy)
theorem TabOk.nil {P : Program} : TabOk P [] := fun x hx => by cases hx
theorem TabOk.append {P : Program} {T U : Tab} (h : TabOk P T) (k : TabOk P U) : TabOk P (T ++ U) := fun x hx => by
 rcases List.mem_append.1 hx with hx | hx
 ·exact h x hx
 ·exact k x hx
end
end Go.Am
