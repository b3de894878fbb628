/-
  AN ABSTRACT MACHINE FOR PROOFS, PART 6. A general base for proofs: no program is named here.
-/
import Derived.Test.YtoiblgbaeglgoaaJA5
namespace Go.Am
open Go Go.RowKit
def fnOf (P : Program) (fn : Func) : Option FnI :=
 match fn.body with
 | some code => match zhz P code, zg5 P fn.results.toList with
  | some ic, some ras => if fn.name == "runtime.NumGoroutine" then none else some ⟨fn.ntmps, ic, ras⟩
  | _, _ => none
 | none => none
def envOf (P : Program) (fuel : Nat) : Env :=
 ⟨fun f => match P.funcs[f]? with
  | some fn => fnOf P fn
  | none => none, fun _ _ => none, fun _ _ _ => none, fun _ => false, fun _ => false, fuel⟩
theorem ent_of {P : Program} {f : FuncId} {fn : Func} {code : Code} (hf : P.funcs[f]? = some fn) (hb : fn.body = some code) (hn : (fn.name == "runtime.NumGoroutine") = false) : Ent P f := by
 intro args w
 unfold callFunc
 have hp : (program : Sem Program).run P w = .ok P w := rfl
 simp only [Sem.run_bind, hp, Result.andThen_ok, hf]
 rw [if_neg (by rw [hn]; simp), if_neg (by rw [hb]; simp)]
 rfl
theorem fnOf_ok {P : Program} {f : FuncId} {fn : Func} {i : FnI} (hf : P.funcs[f]? = some fn) (h : fnOf P fn = some i) :
  ∃ fn code, P.funcs[f]? = some fn ∧ fn.body = some code ∧ zhz P code = some i.ic ∧ fn.ntmps = i.size ∧ zg5 P fn.results.toList = some i.res ∧ Ent P f := by
 unfold fnOf at h
 split at h <;> try cases h
 rename_i code hc
 split at h <;> try cases h
 rename_i ic ras h1 h2
 split at h <;> try cases h
 rename_i hn
 exact ⟨fn, code, hf, hc, h1, rfl, h2, ent_of hf hc (by simpa using hn)⟩
theorem envOf_ok {P : Program} (fuel : Nat) (hm : P.follows .mixedOrders = true) : EnvOk P (envOf P fuel) := by
 refine ⟨fun f i h => ?_, fun f args v h => (by cases h), fun f args H v H' h => (by cases h), hm⟩
 simp only [envOf] at h
 split at h
 ·rename_i fn hf; exact fnOf_ok hf h
 ·cases h
def tabO : List (FuncId × List AV × AV) → FuncId → List AV → Option AV
 | [], _, _ => none
 | (g, as, v) :: l, f, args => if Nat.beq g f then (if zr2 as args then some v else tabO l f args) else tabO l f args
theorem yai {P : Program} : ∀ {l : List (FuncId × List AV × AV)}, (∀ x ∈ l, PF P x.1 x.2.1 x.2.2) → ∀ {f : FuncId} {args : List AV} {v : AV}, tabO l f args = some v → PF P f args v
 | [], _, f, args, v, h => by simp [tabO] at h
 | (g, as, u) :: l, hl, f, args, v, h => by
  have ih := fun h => yai (fun x hx => hl x (y04 _ hx)) (f := f) (args := args) (v := v) h
  simp only [tabO] at h
  split at h
  ·rename_i h1
   split at h
   ·rename_i h2
    simp only [y00] at h; subst h
    have e1 : g = f := y0r h1
    have e2 := zcx _ _ h2
    subst e1 e2
    exact hl _ (y05 ..)
   ·exact ih h
  ·exact ih h
def Env.with (E : Env) (l : List (FuncId × List AV × AV)) (pure : List Nat) : Env := { E with orc := tabO l, pure := fun f => pure.any (Nat.beq f), known := fun f => pure.any (Nat.beq f) || l.any fun x => Nat.beq x.1 f }
theorem EnvOk.with {P : Program} {E : Env} (h : EnvOk P E) {l : List (FuncId × List AV × AV)} {pure : List Nat} (hl : ∀ x ∈ l, PF P x.1 x.2.1 x.2.2) : EnvOk P (E.with l pure) :=
 ⟨h.fn, fun _ _ _ e => yai hl e, h.sum, h.mix⟩
def zta (P : Program) (E : Env) (n : Nat) (f : FuncId) (args : List AV) (v : AV) : Bool :=
 match (lvl P E n).f f args ⟨[], 0, 0⟩ with
 | some (v0, H) => AV.beq ((⟨0, .nil, H.heap, H.next, H.clk, []⟩ : AS).view VD v0) v
 | none => false
theorem zpc {P : Program} {E : Env} (hE : EnvOk P E) {n : Nat} {f : FuncId} {args : List AV} {v : AV} (h : zta P E n f args v = true) : PF P f args v := by
 unfold zta at h
 split at h
 ·rename_i v0 H hr
  refine zst fun w0 N0 => ((lvl_ok hE n).1 _ _ _ _ _ hr w0 N0).mono fun v1 H1 ⟨e1, e2⟩ => ?_
  subst e1 e2
  exact AV.eq_of_beq _ _ h
 ·cases h
noncomputable section
def setV (o : Option AV) (t : TM) : TM := TM.rec (motive := fun _ => TM) (.nd o .nil .nil) (fun _ l r _ _ => .nd o l r) t
def setL (ih : TM → TM) (t : TM) : TM := TM.rec (motive := fun _ => TM) (.nd none (ih .nil) .nil) (fun v l r _ _ => .nd v (ih l) r) t
def setR (ih : TM → TM) (t : TM) : TM := TM.rec (motive := fun _ => TM) (.nd none .nil (ih .nil)) (fun v l r _ _ => .nd v l (ih r)) t
def zvu (o : Option AV) (p : List Bool) : TM → TM := List.rec (motive := fun _ => TM → TM) (setV o) (fun b _ ih => Bool.rec (motive := fun _ => TM → TM) (setL ih) (setR ih) b) p
theorem setPK_eq (o : Option AV) (p : List Bool) : zvu o p = TM.setP o p := by
 induction p with
 | nil => funext t; cases t <;> rfl
 | cons b p ih =>
  show Bool.rec (motive := fun _ => TM → TM) (setL (zvu o p)) (setR (zvu o p)) b = yaa b (TM.setP o p)
  rw [ih]
  funext t
  cases b <;> cases t <;> rfl
def putK (dst : Option Nat) : AV → AS → AS := match dst with
 | some d => fun v S => ⟨S.size, zvu (some v) (zgo d) S.tmps, S.heap, S.next, S.clk, S.marks⟩
 | none => fun _ S => S
theorem zzq (dst : Option Nat) (v : AV) (S : AS) : putK dst v S = S.put dst v := by
 cases dst with
 | none => rfl
 | some d => simp only [putK, AS.put, setPK_eq]; rfl
def zzi (dst : Option Nat) : Nat → Bool := match dst with
 | some d => Nat.ble (Nat.succ d)
 | none => fun _ => true
theorem zzj (dst : Option Nat) (n : Nat) : zzi dst n = zcj n dst := by
 cases dst with
 | none => rfl
 | some d => simp only [zzi, zcj]; rw [Bool.eq_iff_iff, Nat.ble_eq, decide_eq_true_iff]; exact Iff.rfl
abbrev KS := AV → AS → Option AS
def putS (d : Nat) (ih : AS → Option AS) (v : AV) (S : AS) : Option AS :=
 AS.rec (motive := fun _ => Option AS) (fun size tmps heap next clk marks => Bool.rec (motive := fun _ => Option AS) none (ih ⟨size, zvu (some v) (zgo d) tmps, heap, next, clk, marks⟩) (Nat.ble (Nat.succ d) size)) S
def putN (ih : AS → Option AS) (_ : AV) (S : AS) : Option AS := ih S
def putC (dst : Option Nat) : (AS → Option AS) → KS := Option.rec (motive := fun _ => (AS → Option AS) → KS) putN putS dst
theorem zzp (dst : Option Nat) (ih : AS → Option AS) (v : AV) (S : AS) : putC dst ih v S = if zcj S.size dst then ih (S.put dst v) else none := by
 cases dst with
 | none => rfl
 | some d =>
  obtain ⟨size, tmps, heap, next, clk, marks⟩ := S
  show Bool.rec (motive := fun _ => Option AS) none (ih (putK (some d) v ⟨size, tmps, heap, next, clk, marks⟩)) (zzi (some d) size) = _
  rw [zzj, zzq]
  cases zcj size (some d) <;> rfl
def yau (k : KS) (o : Option (AV × AS)) : Option AS := Option.rec (motive := fun _ => Option AS) none (fun x => Prod.rec (motive := fun _ => Option AS) (fun v S1 => k v S1) x) o
abbrev Arm := Program → Env → Rec → KS → AS → Option AS
def zcv (f : AS → Option (AV × AS)) (_ : Program) (_ : Env) (_ : Rec) (k : KS) (S : AS) : Option AS := yau k (f S)
def zz7 (k : KS) (S : AS) (v : AV) (H : HS) : Option AS := match S with
 | ⟨size, tmps, _, _, _, marks⟩ => match H with
  | ⟨heap, next, clk⟩ => cond (zic marks heap) (k v ⟨size, tmps, heap, next, clk, marks⟩) none
def callK2 (k : KS) (S : AS) : Option (AV × HS) → Option AS
 | some (v, H) => zz7 k S v H
 | none => none
def callK1 (P : Program) (R : Rec) (k : KS) (S : AS) (fv : AV) (vs : List AV) : Option AV → Option AS
 | some v => k v S
 | none => callK2 k S (zxg P R fv vs S.hs)
def callK (P : Program) (E : Env) (R : Rec) (k : KS) (S : AS) (fv : AV) (vs : List AV) : Option AS := callK1 P R k S fv vs (zdr E R S fv vs)
def zn9 (P : Program) (E : Env) (R : Rec) (k : KS) (S : AS) (vs : Option (List AV)) : Option AV → Option AS
 | some fv => match vs with
  | some vs => callK P E R k S fv vs
  | none => none
 | none => none
def wrapC (fa : Arg) (args : List Arg) (P : Program) (E : Env) (R : Rec) (k : KS) (S : AS) : Option AS := zn9 P E R k S (zph S args) (zdt S fa)
def opK (op : IOp) : Arm := IOp.rec (motive := fun _ => Arm)
 (fun a => zcv (i_mov a))
 (fun a b c => zcv (zyt a b c))
 (fun a => zcv (zru a))
 (fun a => zcv (i_box a))
 (fun a b => zcv (zrv a b))
 (fun a b c d => zcv (zo9 a b c d))
 (fun a b => zcv (zyp a b))
 (fun a b c => zcv (zs2 a b c))
 (fun a => zcv (zog a))
 (fun a b c => zcv (i_bin a b c))
 (fun a b c => zcv (i_eqb a b c))
 (fun a b c d => zcv (i_eqs a b c d))
 (fun a b => zcv (i_un a b))
 (fun a b => zcv (zyl a b))
 (fun a b c => zcv (zyq a b c))
 (fun a b c d e => zcv (zld a b c d e))
 (fun a b c d e => zcv (zyu a b c d e))
 (fun a b c d e => zcv (zs0 a b c d e))
 (fun a b c => zcv (zs1 a b c))
 (fun a b => zcv (zrx a b))
 (fun a b c => zcv (zry a b c))
 (fun a b c => zcv (zyn a b c))
 (fun a b c d => zcv (zob a b c d))
 (fun a b c d e => zcv (zoa a b c d e))
 (fun a b => zcv (zoc a b))
 (fun a b => zcv (zlc a b))
 (fun a b => zcv (i_len a b))
 (fun a => zcv (zyo a))
 (fun a b c d e => zcv (zo8 a b c d e))
 (fun a b c d e => zcv (zlb a b c d e))
 (fun a => zcv (zyk a))
 (fun a b => zcv (zyr a b))
 (zcv zrz)
 (fun a b c d => zcv (zoe a b c d))
 (fun a b c d e => zcv (zod a b c d e))
 (fun a b c => zcv (zym a b c))
 (fun a b c => zcv (zrw a b c))
 (fun a b => zcv (zof a b))
 (fun a b => wrapC a b)
 (zcv zys)
 op
def resK (S : AS) (k : KS) : Option (AV × HS) → Option AS
 | some (v, H) => k v (S.withH H)
 | none => none
theorem opK_eq (P : Program) (E : Env) (R : Rec) (k : KS) (S : AS) (io : Opr) : opK io.op P E R k S = resK S k (zde P E R S io) := by
 obtain ⟨dst, op, guard⟩ := io
 by_cases hc : ∃ fa args, op = .call fa args
 ·obtain ⟨fa, args, rfl⟩ := hc
  show wrapC fa args P E R k S = _
  simp only [wrapC, zb9, zhu, zde, zba, zgn]
  cases S.arg fa with
  | none => rfl
  | some fv => cases S.args args with
   | none => rfl
   | some vs =>
    simp only [zn9, callK]
    cases zdr E R S fv vs with
    | some v => rfl
    | none =>
     simp only [callK1]
     cases zxg P R fv vs S.hs with
     | none => rfl
     | some r =>
      obtain ⟨v, H⟩ := r
      show zz7 k S v H = _
      obtain ⟨size, tmps, heap, next, clk, marks⟩ := S
      obtain ⟨h1, h2, h3⟩ := H
      simp only [zz7]
      cases zic marks h1 <;> rfl
 ·have h1 : opK op P E R k S = yau k (iop S op) := by
   rw [← zyw]
   cases op <;> first
    | rfl
    | exact absurd ⟨_, _, rfl⟩ hc
  rw [h1]
  have h2 : zba E R S ⟨dst, op, guard⟩ = if zc6 op then none else (iop S op).map (·.1) := by
   cases op <;> first
    | rfl
    | exact absurd ⟨_, _, rfl⟩ hc
  have h3 : zgn P R S ⟨dst, op, guard⟩ = match iop S op with | some (v, S1) => some (v, S1.hs) | none => none := by
   cases op <;> first
    | rfl
    | exact absurd ⟨_, _, rfl⟩ hc
  simp only [zde, h2, h3]
  by_cases hl : zc6 op = true
  ·rw [if_pos hl]
   cases hi : iop S op with
   | none => rfl
   | some r =>
    obtain ⟨v, S1⟩ := r
    show k v S1 = k v (S.withH S1.hs)
    rw [← zh2 hi]
  ·rw [if_neg hl]
   cases hi : iop S op with
   | none => rfl
   | some r =>
    obtain ⟨v, S1⟩ := r
    obtain rfl := zgl (by simpa using hl) hi
    rfl
def zxc (o : Option AV) (b : Bool) : Option Bool := match o with
 | some (.bool x) => some (x == b)
 | some (.tup _) => some false
 | _ => none
def zp8 (g : Option (Nat × Bool)) : AS → Option Bool := match g with
 | none => fun _ => some true
 | some (d, b) => fun S => zxc (argT d S) b
theorem argT_eq (d : Nat) (S : AS) : argT d S = S.get d := zb9 S (.t d)
theorem zne (S : AS) (io : Opr) : zp8 io.guard S = zay S io := by
 unfold zay
 cases io.guard with
 | none => rfl
 | some g => obtain ⟨d, b⟩ := g; simp only [zp8, argT_eq]; cases S.get d with
  | none => rfl
  | some v => cases v <;> rfl
def runW (dst : Option Nat) (ih : AS → Option AS) (P : Program) (E : Env) (R : Rec) (op : IOp) (S : AS) : Option Bool → Option AS
 | some true => opK op P E R (putC dst ih) S
 | some false => putC dst ih (.tup []) S
 | none => none
def runG (dst : Option Nat) (op : IOp) (guard : Option (Nat × Bool)) (P : Program) (E : Env) (R : Rec) (ih : AS → Option AS) (S : AS) : Option AS :=
 Option.rec (motive := fun _ => Option AS) (opK op P E R (putC dst ih) S) (fun g => runW dst ih P E R op S (zxc (argT g.1 S) g.2)) guard
def zsk (P : Program) (E : Env) (R : Rec) (io : Opr) (ih : AS → Option AS) : AS → Option AS := Opr.rec (motive := fun _ => AS → Option AS) (fun dst op guard => runG dst op guard P E R ih) io
def ya1 (P : Program) (E : Env) (R : Rec) (ios : List Opr) : AS → Option AS := List.rec (motive := fun _ => AS → Option AS) some (fun io _ ih => zsk P E R io ih) ios
theorem zuj (P : Program) (E : Env) (R : Rec) : ∀ (ios : List Opr) (S : AS), ya1 P E R ios S = zw5 P E R ios S
 | [], S => rfl
 | io :: ios, S => by
  show zsk P E R io (ya1 P E R ios) S = _
  have ih : ya1 P E R ios = zw5 P E R ios := funext fun S => zuj P E R ios S
  rw [ih]
  have h : zsk P E R io (zw5 P E R ios) S = runW io.dst (zw5 P E R ios) P E R io.op S (zp8 io.guard S) := by
   obtain ⟨dst, op, guard⟩ := io
   cases guard with
   | none => rfl
   | some g => rfl
  rw [h, zne, zw5]
  cases zay S io with
  | none => rfl
  | some b => cases b with
   | false => simp only [runW, zzp]
   | true =>
    simp only [runW, opK_eq]
    cases zde P E R S io with
    | none => rfl
    | some r => obtain ⟨v, H⟩ := r; simp only [resK, zzp]; rfl
def putD2 (d : Nat) (ih : AS → Option AS) (v : AV) (S : AS) : Option AS :=
 AS.rec (motive := fun _ => Option AS) (fun size tmps heap next clk marks => ih ⟨size, zvu (some v) (zgo d) tmps, heap, next, clk, marks⟩) S
def putN2 (dst : Option Nat) : (AS → Option AS) → KS := Option.rec (motive := fun _ => (AS → Option AS) → KS) putN putD2 dst
theorem zk9 (dst : Option Nat) (ih : AS → Option AS) (v : AV) (S : AS) : putN2 dst ih v S = ih (S.put dst v) := by
 cases dst with
 | none => rfl
 | some d =>
  obtain ⟨size, tmps, heap, next, clk, marks⟩ := S
  show ih (putK (some d) v ⟨size, tmps, heap, next, clk, marks⟩) = _
  rw [zzq]
theorem opK_nc (P : Program) (E : Env) (R : Rec) (k : KS) (S : AS) (op : IOp) (hc : ¬ ∃ fa args, op = .call fa args) : opK op P E R k S = yau k (iop S op) := by
 rw [← zyw]
 cases op <;> first
  | rfl
  | exact absurd ⟨_, _, rfl⟩ hc
def optK (k : AV → AS → Option AS) (S : AS) : Option AV → Option AS
 | some v => k v S
 | none => none
def qCall0 (E : Env) (R : Rec) (k : KS) (S : AS) (vs : Option (List AV)) : Option AV → Option AS
 | some fv => match vs with
  | some vs => optK k S (zdr E R S fv vs)
  | none => none
 | none => none
def qCall (fa : Arg) (args : List Arg) (_ : Program) (E : Env) (R : Rec) (k : KS) (S : AS) : Option AS := qCall0 E R k S (zph S args) (zdt S fa)
def qOp (op : IOp) (P : Program) (E : Env) (R : Rec) (k : KS) (S : AS) : Option AS := cond (zc6 op) none (opK op P E R k S)
def qK (op : IOp) : Arm := match op with
 | .call fa args => qCall fa args
 | op => qOp op
theorem qK_eq (P : Program) (E : Env) (R : Rec) (k : KS) (S : AS) (io : Opr) : qK io.op P E R k S = optK k S (zba E R S io) := by
 obtain ⟨dst, op, guard⟩ := io
 by_cases hc : ∃ fa args, op = .call fa args
 ·obtain ⟨fa, args, rfl⟩ := hc
  simp only [qK, qCall, zb9, zhu, zba]
  cases S.arg fa with
  | none => rfl
  | some fv => cases S.args args <;> rfl
 ·have h1 : qK op P E R k S = cond (zc6 op) none (yau k (iop S op)) := by
   rw [← opK_nc P E R k S op hc]
   cases op <;> first
    | rfl
    | exact absurd ⟨_, _, rfl⟩ hc
  have h2 : zba E R S ⟨dst, op, guard⟩ = if zc6 op then none else (iop S op).map (·.1) := by
   cases op <;> first
    | rfl
    | exact absurd ⟨_, _, rfl⟩ hc
  rw [h1, h2]
  by_cases hl : zc6 op = true
  ·rw [hl, if_pos rfl]; rfl
  ·rw [if_neg hl]
   rw [show zc6 op = false by simpa using hl]
   cases hi : iop S op with
   | none => rfl
   | some r =>
    obtain ⟨v, S1⟩ := r
    obtain rfl := zgl (by simpa using hl) hi
    rfl
def iCall1 (E : Env) (R : Rec) (k : KS) (S : AS) (vs : List AV) : AV → Option AS
 | .fn fid first cap => cond (hasM.hasML (first ++ vs ++ cap)) none (optK k S (zdr E R (S.withH zlj) (.fn fid first cap) vs))
 | _ => none
def iCall0 (E : Env) (R : Rec) (k : KS) (S : AS) (vs : Option (List AV)) : Option AV → Option AS
 | some fv => match vs with
  | some vs => iCall1 E R k S vs fv
  | none => none
 | none => none
def iCall (fa : Arg) (args : List Arg) (_ : Program) (E : Env) (R : Rec) (k : KS) (S : AS) : Option AS := iCall0 E R k S (zph S args) (zdt S fa)
def keepS (k : KS) (S : AS) : KS := fun v _ => k v S
def iOp (op : IOp) (P : Program) (E : Env) (R : Rec) (k : KS) (S : AS) : Option AS := cond (zc6 op) none (opK op P E R (keepS k S) (S.withH zlj))
def iK (op : IOp) : Arm := match op with
 | .call fa args => iCall fa args
 | op => iOp op
theorem iK_eq (P : Program) (E : Env) (R : Rec) (k : KS) (S : AS) (io : Opr) : iK io.op P E R k S = optK k S (zey E R S io) := by
 obtain ⟨dst, op, guard⟩ := io
 by_cases hc : ∃ fa args, op = .call fa args
 ·obtain ⟨fa, args, rfl⟩ := hc
  simp only [iK, iCall, zb9, zhu, zey]
  cases S.arg fa with
  | none => rfl
  | some fv =>
   cases S.args args with
   | none => cases fv <;> rfl
   | some vs =>
    cases fv <;> try rfl
    rename_i fid first cap
    simp only [iCall0, iCall1]
    cases hasM.hasML (first ++ vs ++ cap) <;> rfl
 ·have h1 : iK op P E R k S = cond (zc6 op) none (yau (keepS k S) (iop (S.withH zlj) op)) := by
   rw [← opK_nc P E R (keepS k S) (S.withH zlj) op hc]
   cases op <;> first
    | rfl
    | exact absurd ⟨_, _, rfl⟩ hc
  have h2 : zey E R S ⟨dst, op, guard⟩ = if zc6 op then none else (iop (S.withH zlj) op).map (·.1) := by
   cases op <;> first
    | rfl
    | exact absurd ⟨_, _, rfl⟩ hc
  rw [h1, h2]
  by_cases hl : zc6 op = true
  ·rw [hl, if_pos rfl]; rfl
  ·rw [if_neg hl]
   rw [show zc6 op = false by simpa using hl]
   cases hi : iop (S.withH zlj) op with
   | none => rfl
   | some r => rfl
def armS (op : IOp) (q ind : Bool) : Arm := Bool.rec (motive := fun _ => Arm) (opK op) (Bool.rec (motive := fun _ => Arm) (qK op) (iK op) ind) q
def runWS (dst : Option Nat) (ih : AS → Option AS) (P : Program) (E : Env) (R : Rec) (op : IOp) (q ind : Bool) (S : AS) : Option Bool → Option AS
 | some true => armS op q ind P E R (putN2 dst ih) S
 | some false => putN2 dst ih (.tup []) S
 | none => none
def runGS (dst : Option Nat) (op : IOp) (guard : Option (Nat × Bool)) (q ind : Bool) (P : Program) (E : Env) (R : Rec) (ih : AS → Option AS) (S : AS) : Option AS :=
 Option.rec (motive := fun _ => Option AS) (armS op q ind P E R (putN2 dst ih) S) (fun g => runWS dst ih P E R op q ind S (zxc (argT g.1 S) g.2)) guard
def runFlag (P : Program) (E : Env) (R : Rec) (io : Opr) (ih : List (Bool × Bool) → AS → Option AS) (fl : List (Bool × Bool)) (S : AS) : Option AS :=
 List.rec (motive := fun _ => Option AS) none (fun f fl' _ => runGS io.dst io.op io.guard f.1 f.2 P E R (ih fl') S) fl
def doneS (fl : List (Bool × Bool)) (S : AS) : Option AS := List.rec (motive := fun _ => Option AS) (some S) (fun _ _ _ => none) fl
def runSK (P : Program) (E : Env) (R : Rec) (ios : List Opr) : List (Bool × Bool) → AS → Option AS :=
 List.rec (motive := fun _ => List (Bool × Bool) → AS → Option AS) doneS (fun io _ ih => runFlag P E R io ih) ios
theorem zuk (P : Program) (E : Env) (R : Rec) : ∀ (ios : List Opr) (fl : List (Bool × Bool)) (S : AS), runSK P E R ios fl S = zdu P E R ios fl S
 | [], [], S => rfl
 | [], _ :: _, S => rfl
 | io :: ios, [], S => rfl
 | io :: ios, (q, ind) :: fl, S => by
  have ih : runSK P E R ios fl = zdu P E R ios fl := funext fun S => zuk P E R ios fl S
  show runGS io.dst io.op io.guard q ind P E R (runSK P E R ios fl) S = _
  rw [ih]
  have h : runGS io.dst io.op io.guard q ind P E R (zdu P E R ios fl) S = runWS io.dst (zdu P E R ios fl) P E R io.op q ind S (zp8 io.guard S) := by
   cases hg : io.guard <;> rfl
  rw [h, zne, zdu]
  cases zay S io with
  | none => rfl
  | some b => cases b with
   | false => simp only [runWS, zk9]
   | true =>
    simp only [runWS]
    cases q with
    | false =>
     show opK io.op P E R _ S = _
     rw [opK_eq]
     cases zde P E R S io with
     | none => rfl
     | some r => obtain ⟨v, H⟩ := r; simp only [resK, zk9]; rfl
    | true =>
     cases ind with
     | false =>
      show qK io.op P E R _ S = _
      rw [qK_eq]
      simp only [if_true, y0l, if_false]
      cases zba E R S io with
      | none => rfl
      | some v => simp only [optK, zk9]
     | true =>
      show iK io.op P E R _ S = _
      rw [iK_eq]
      simp only [if_true]
      cases zey E R S io with
      | none => rfl
      | some v => simp only [optK, zk9]
def runDK (P : Program) (E : Env) (R : Rec) (ios : List Opr) (pres : List (List Nat)) (S : AS) : Option (List (Bool × Bool)) → Option AS
 | some fl => match runSK P E R ios fl S with
  | some S1 => some S1
  | none => zjh P E R ios pres S
 | none => zjh P E R ios pres S
abbrev CK := AS → Option (Exit × AS)
def normK : Option AS → Option (Exit × AS)
 | some S => some (.normal, S)
 | none => none
def cSkip : CK := fun S => some (.normal, S)
def cReg (P : Program) (E : Env) (R : Rec) (ios : List Opr) (d : Option (List (List Nat))) : CK := match d with
 | none => fun S => normK (ya1 P E R ios S)
 | some pres => fun S => normK (runDK P E R ios pres S (zp3 E ios pres S.size))
def zsx (k : CK) : Option (Exit × AS) → Option (Exit × AS)
 | some (.normal, S) => k S
 | r => r
def cSeq (a b : CK) : CK := fun S => zsx b (a S)
def condK (a b : CK) (S : AS) : Option AV → Option (Exit × AS)
 | some (.bool t) => cond t (a S) (b S)
 | _ => none
def cCond (c : Arg) (a b : CK) : CK := fun S => condK a b S (zdt S c)
def zx5 (id : Nat) : Option (Exit × AS) → Option (Exit × AS)
 | some (.exit i, S) => cond (Nat.beq i id) (some (.normal, S)) (some (.exit i, S))
 | r => r
def cBlock (id : Nat) (b : CK) : CK := fun S => zx5 id (b S)
def iterK (body : CK) (n : Nat) : CK := Nat.rec (motive := fun _ => CK) (fun _ => none) (fun _ ih S => zsx ih (body S)) n
def cLoop (n : Nat) (b : CK) : CK := iterK b n
def cRange (P : Program) (E : Env) (R : Rec) (rd : Option (Nat × Nat)) (g : Arg) (ps : List Nat) (ca cb : Code) : CK := fun S => zhb P E R rd (.rangeFunc g ps ca cb .skip .skip) S
def cExit (id : Nat) : CK := fun S => some (.exit id, S)
def cRet : CK := fun S => some (.ret, S)
def zm3 (P : Program) (E : Env) (R : Rec) (rd : Option (Nat × Nat)) (ic : IC) : CK :=
 IC.rec (motive := fun _ => CK) cSkip (cReg P E R) (fun _ _ a b => cSeq a b) (fun c _ _ a b => cCond c a b) (fun id _ b => cBlock id b) (fun _ b => cLoop E.fuel b)
  (fun g ps ca cb _ _ _ _ => cRange P E R rd g ps ca cb) cExit cRet ic
theorem ztr (body body' : CK) (h : ∀ S, body S = body' S) : ∀ (n : Nat) (S : AS), iterK body n S = iter body' n S
 | 0, S => rfl
 | n + 1, S => by
  show zsx (iterK body n) (body S) = iter body' (n + 1) S
  rw [h S, iter]
  cases body' S with
  | none => rfl
  | some r => obtain ⟨e, S1⟩ := r; cases e <;> first | exact ztr body body' h n S1 | rfl
theorem zui (P : Program) (E : Env) (R : Rec) (rd : Option (Nat × Nat)) (ic : IC) : ∀ S, zm3 P E R rd ic S = zhb P E R rd ic S := by
 induction ic with
 | skip => intro S; rfl
 | region ios d =>
  intro S
  cases d with
  | none => show normK (ya1 P E R ios S) = _; rw [zuj, zhb]; cases zw5 P E R ios S <;> rfl
  | some pres =>
   show normK (runDK P E R ios pres S (zp3 E ios pres S.size)) = _
   have : runDK P E R ios pres S (zp3 E ios pres S.size) = runD P E R ios pres S := by
    unfold runD
    cases zp3 E ios pres S.size with
    | none => rfl
    | some fl => simp only [runDK, zuk]; cases zdu P E R ios fl S <;> rfl
   rw [this, zhb]; cases runD P E R ios pres S <;> rfl
 | seq a b iha ihb =>
  intro S
  show zsx (zm3 P E R rd b) (zm3 P E R rd a S) = _
  rw [iha, zhb]
  cases zhb P E R rd a S with
  | none => rfl
  | some r => obtain ⟨e, S1⟩ := r; cases e <;> first | exact ihb S1 | rfl
 | cond c a b iha ihb =>
  intro S
  show condK (zm3 P E R rd a) (zm3 P E R rd b) S (zdt S c) = _
  rw [zb9, zhb]
  cases S.arg c with
  | none => rfl
  | some v => cases v <;> first | rfl | (rename_i t; cases t <;> first | exact iha S | exact ihb S)
 | block id b ih =>
  intro S
  show zx5 id (zm3 P E R rd b S) = _
  rw [ih, zhb]
  cases zhb P E R rd b S with
  | none => rfl
  | some r =>
   obtain ⟨e, S1⟩ := r
   cases e <;> first
    | rfl
    | (
      rename_i i
      simp only [zx5]
      by_cases h : i = id
      ·rw [if_pos h, show Nat.beq i id = true from by rw [h]; exact Nat.beq_refl id]; rfl
      ·rw [if_neg h, show Nat.beq i id = false from by cases hb : Nat.beq i id with | false => rfl | true => exact absurd (y0r hb) h]; rfl)
 | loop b ih =>
  intro S
  show iterK (zm3 P E R rd b) E.fuel S = _
  rw [zhb]
  exact ztr _ _ ih _ S
 | rangeFunc g ps ca cb a b _ _ => intro S; show zhb P E R rd (.rangeFunc g ps ca cb .skip .skip) S = _; simp only [zhb]
 | exit id => intro S; rfl
 | ret => intro S; rfl
def endK (i : FnI) : Option (Exit × AS) → Option (AV × HS)
 | some (e, S') => cond (isOut e) (match S'.leave.res i.res with
  | some v => some (v, S'.leave.hs)
  | none => none) none
 | none => none
def bodyK (P : Program) (E : Env) (R : Rec) (i : FnI) (args : List AV) (H : HS) : Option (AV × HS) :=
 cond (Nat.ble args.length i.size) (endK i (zm3 P E R none i.ic (AS.enter i.size args H))) none
def fnK (P : Program) (E : Env) (R : Rec) (args : List AV) (H : HS) : Option FnI → Option (AV × HS)
 | some i => bodyK P E R i args H
 | none => none
def sumK (P : Program) (E : Env) (R : Rec) (f : FuncId) (args : List AV) (H : HS) : Option (AV × HS) → Option (AV × HS)
 | some r => some r
 | none => fnK P E R args H (E.fn f)
def runFK (P : Program) (E : Env) (R : Rec) (f : FuncId) (args : List AV) (H : HS) : Option (AV × HS) := sumK P E R f args H (E.sum f args H)
theorem runFK_eq (P : Program) (E : Env) (R : Rec) (f : FuncId) (args : List AV) (H : HS) : runFK P E R f args H = runF P E R f args H := by
 unfold runFK runF
 cases E.sum f args H with
 | some r => rfl
 | none =>
  simp only [sumK]
  cases E.fn f with
  | none => rfl
  | some i =>
   simp only [fnK, bodyK, zui]
   by_cases h : args.length ≤ i.size
   ·rw [if_pos h, show Nat.ble args.length i.size = true from Nat.ble_eq_true_of_le h]
    simp only [cond_true]
    cases zhb P E R none i.ic (AS.enter i.size args H) with
    | none => rfl
    | some r => obtain ⟨e, S'⟩ := r; simp only [endK]; cases isOut e <;> rfl
   ·rw [if_neg h, show Nat.ble args.length i.size = false from by cases hb : Nat.ble args.length i.size with | false => rfl | true => exact absurd (y1t hb) h]; rfl
def lvlK (P : Program) (E : Env) (n : Nat) : Rec :=
 Nat.rec ⟨fun _ _ _ => none, fun _ _ _ => none⟩ (fun _ R => ⟨runFK P E R, zm3 P E R⟩) n
theorem zz6 (P : Program) (E : Env) (n : Nat) : lvlK P E n = lvl P E n := by
 induction n with
 | zero => rfl
 | succ n ih =>
  show (⟨runFK P E (lvlK P E n), zm3 P E (lvlK P E n)⟩ : Rec) = ⟨runF P E (lvl P E n), zhb P E (lvl P E n)⟩
  rw [ih]
  congr 1
  ·funext f a H; exact runFK_eq ..
  ·funext rd ic S; exact zui ..
def seeK (v : AV) : Option (AV × HS) → Bool
 | some (v0, H) => AV.beq ((⟨0, .nil, H.heap, H.next, H.clk, []⟩ : AS).view VD v0) v
 | none => false
def zno (P : Program) (E : Env) (n : Nat) (f : FuncId) (args : List AV) (v : AV) : Bool := seeK v ((lvlK P E n).f f args ⟨[], 0, 0⟩)
theorem zv2 (P : Program) (E : Env) (n : Nat) (f : FuncId) (args : List AV) (v : AV) : zno P E n f args v = zta P E n f args v := by
 unfold zno zta
 rw [zz6]
 cases (lvl P E n).f f args ⟨[], 0, 0⟩ with
 | none => rfl
 | some r => rfl
theorem zpd {P : Program} {E : Env} (hE : EnvOk P E) {n : Nat} {f : FuncId} {args : List AV} {v : AV} (h : zno P E n f args v = true) : PF P f args v :=
 zpc hE (by rw [← zv2]; exact h)
end
noncomputable section
abbrev Tab := List (FuncId × List (List AV × AV))
def zy4 (f : FuncId) (T : Tab) : Option (List (List AV × AV)) :=
 List.rec (motive := fun _ => Option (List (List AV × AV))) none (fun x _ ih => Bool.rec (motive := fun _ => Option (List (List AV × AV))) ih (some x.2) (Nat.beq x.1 f)) T
def findA (args : List AV) (l : List (List AV × AV)) : Option AV :=
 List.rec (motive := fun _ => Option AV) none (fun x _ ih => Bool.rec (motive := fun _ => Option AV) ih (some x.2) (zr2 x.1 args)) l
def findT (T : Tab) (f : FuncId) (args : List AV) : Option AV := Option.rec (motive := fun _ => Option AV) none (fun l => findA args l) (zy4 f T)
def TabOk (P : Program) (T : Tab) : Prop := ∀ x ∈ T, ∀ y ∈ x.2, PF P x.1 y.1 y.2
theorem zpv {f : FuncId} : ∀ {T : Tab} {l : List (List AV × AV)}, zy4 f T = some l → (f, l) ∈ T
 | [], l, h => by cases h
 | x :: T, l, h => by
  have e : zy4 f (x :: T) = Bool.rec (motive := fun _ => Option (List (List AV × AV))) (zy4 f T) (some x.2) (Nat.beq x.1 f) := rfl
  rw [e] at h
  cases hb : Nat.beq x.1 f with
  | true =>
   rw [hb] at h
   injection h with h
   obtain ⟨a, b⟩ := x
   have : a = f := y0r hb
   subst this
   subst h
   exact y05 ..
  | false => rw [hb] at h; exact y04 _ (zpv h)
theorem zpu {args : List AV} {v : AV} : ∀ {l : List (List AV × AV)}, findA args l = some v → (args, v) ∈ l
 | [], h => by cases h
 | x :: l, h => by
  have e : findA args (x :: l) = Bool.rec (motive := fun _ => Option AV) (findA args l) (some x.2) (zr2 x.1 args) := rfl
  rw [e] at h
  cases hb : zr2 x.1 args with
  | true =>
   rw [hb] at h
   injection h with h
   obtain ⟨a, b⟩ := x
   have : a = args := zcx _ _ hb
   subst this
   subst h
   exact y05 ..
  | false => rw [hb] at h; exact y04 _ (zpu h)
theorem findT_ok {P : Program} {T : Tab} (hT : TabOk P T) {f : FuncId} {args : List AV} {v : AV} (h : findT T f args = some v) : PF P f args v := by
 unfold findT at h
 cases hl : zy4 f T with
 | none => rw [hl] at h; cases h
 | some l => rw [hl] at h; exact hT _ (zpv hl) _ (zpu h)
def Env.tab (E : Env) (T : Tab) (pure : List Nat) : Env := { E with orc := findT T, pure := fun f => pure.any (Nat.beq f), known := fun f => pure.any (Nat.beq f) || T.any fun x => Nat.beq x.1 f }
theorem EnvOk.tab {P : Program} {E : Env} (h : EnvOk P E) {T : Tab} (hT : TabOk P T) {pure : List Nat} : EnvOk P (E.tab T pure) :=
 ⟨h.fn, fun _ _ _ e => findT_ok hT e, h.sum, h.mix⟩
def allRun (P : Program) (E : Env) (n : Nat) (T : Tab) : Bool := T.all fun x => x.2.all fun y => zno P E n x.1 y.1 y.2
theorem TabOk.of_run {P : Program} {E : Env} (hE : EnvOk P E) {n : Nat} {T : Tab} (h : allRun P E n T = true) : TabOk P T :=
 fun x hx y hy => zpd hE (y0f.1 (y0f.1 h x hx) y hy)
theorem TabOk.nil {P : Program} : TabOk P [] := fun x hx => by cases hx
theorem TabOk.append {P : Program} {T U : Tab} (h : TabOk P T) (k : TabOk P U) : TabOk P (T ++ U) := fun x hx => by
 rcases List.mem_append.1 hx with hx | hx
 ·exact h x hx
 ·exact k x hx
end
end Go.Am
