/-
  THE OPERATIONS, WRITTEN ANEW WITH THEIR TYPES RESOLVED, AND HOW THEY TURN AN ABSTRACT STATE. A general base for proofs: no program is named here.
-/
import Derived.Test.YtclefndccgmolaaDoorAmHeap
namespace Go.Am
open Go Go.RowKit

inductive Arg where
  | t (n : Nat)
  | c (v : AV)

inductive EqK where
  | int | bool | str

inductive IOp where
  | mov (a : Arg)
  | pick (c a b : Arg)
  | alloc (zero : List AV)
  | box (a : Arg)
  | build (zero : List AV) (parts : List (Nat × Nat × Arg))
  | bslice (sz len : Nat) (zero : List AV) (parts : List (Nat × Nat × Arg))
  | load (agg : Option Nat) (a : Arg)
  | store (size : Nat) (a v : Arg)
  | nilchk (a : Arg)
  | bin (op : BinOp) (x y : Arg)
  | eqb (neg : Bool) (x y : Arg)
  | eqs (neg : Bool) (fs : List (Nat × EqK)) (x y : Arg)
  | un (op : UnOp) (a : Arg)
  | conv (k : IntKind) (a : Arg)
  | mkfn (f : FuncId) (first cap : List Arg)
  | mkslice (sz bytes : Nat) (zero : List AV) (l c : Arg)
  | slsl (sz : Nat) (x : Arg) (lo hi mx : Option Arg)
  | slarr (n sz : Nat) (x : Arg) (lo hi : Option Arg)
  | slstr (x : Arg) (lo hi : Option Arg)
  | faddr (off : Nat) (x : Arg)
  | field (off : Nat) (agg : Option Nat) (x : Arg)
  | idxs (sz : Nat) (x i : Arg)
  | idxarr (n sz : Nat) (x i : Arg)
  | idxagg (n sz : Nat) (agg : Bool) (x i : Arg)
  | idxstr (x i : Arg)
  | extract (x : Arg) (i : Nat)
  | len (str : Bool) (a : Arg)
  | lenc (n : Nat)
  | append (sz bytes : Nat) (zero : List AV) (s x : Arg)
  | appendz (sz bytes : Nat) (zero : List AV) (s n : Arg)
  | capo (a : Arg)
  | mkmap
  | mapset (kd : EqK) (m k v : Arg)
  | mapget (kd : EqK) (z : AV) (ok : Bool) (m k : Arg)
  | copy (sz : Nat) (d s : Arg)
  | minmax (isMax : Bool) (args : List Arg)
  | call (f : Arg) (args : List Arg)
  | bad

structure Opr where
  dst : Option Nat
  op : IOp
  guard : Option (Nat × Bool)

inductive IC where
  | skip
  | region (ops : List Opr) (draw : Option (List (List Nat)))
  | seq (a b : IC)
  | cond (c : Arg) (thn els : IC)
  | block (id : Nat) (body : IC)
  | loop (body : IC)
  | rangeFunc (f : Arg) (params : List Nat) (ca cb : Code) (assign body : IC)
  | exit (id : Nat)
  | ret

/-! ### Reading the code -/

def ofConst : Nat → Value → Option AV
  | 0, _ => none
  | _ + 1, .bool b => some (.bool b)
  | _ + 1, .int k n => some (.int k n)
  | _ + 1, .string s => some (.str s.data.toList)
  | _ + 1, .pointer none => some .nilp
  | _ + 1, .slice _ 0 0 => some .nils
  | _ + 1, .nilFunc => some .nilf
  | d + 1, .agg cs => (cs.toList.mapM (ofConst d)).map .agg
  | d + 1, .tuple cs => (cs.toList.mapM (ofConst d)).map .tup
  | _ + 1, _ => none

def comOperand : Operand → Option Arg
  | .tmp t => some (.t t)
  | .const v => (ofConst 4 v).map .c
  | .global g => (globC g GTAB).map fun cs => .c (.vptr cs)
  | .func f => some (.c (.fn f [] []))

def comO : Option Operand → Option (Option Arg)
  | none => some none
  | some x => (comOperand x).map some

def zeroOf (P : Program) (t : TypeId) : Option (List AV) :=
  match P.info? t with
  | some i => match i.zero with
    | some z => z.cells.toList.mapM (ofConst 4)
    | none => none
  | none => none

def zeroV (P : Program) (t : TypeId) : Option AV :=
  match P.info? t with
  | some i => match i.zero with
    | some z => ofConst 4 z
    | none => none
  | none => none

def sizeOf? (P : Program) (t : TypeId) : Option Nat := (P.info? t).map (·.size)
def bytesOf? (P : Program) (t : TypeId) : Option Nat := (P.info? t).map (·.bytes)

def aggOf (P : Program) (t : TypeId) : Option (Option Nat) :=
  match P.underlying t with
  | some (.struct _) | some (.array _ _) => (sizeOf? P t).map some
  | some _ => some none
  | none => none

def comParts (place : Nat → Option (Nat × Nat)) : List (Nat × Operand) → Option (List (Nat × Nat × Arg))
  | [] => some []
  | (i, x) :: l => match place i, comOperand x, comParts place l with
    | some (off, size), some a, some r => some ((off, size, a) :: r)
    | _, _, _ => none

def placesOf (P : Program) (fields : Array Field) : Option (List (Nat × Nat)) := fields.toList.mapM (fun f => (P.info? f.type).map fun i => (f.offset, i.size))

def eqkOf (P : Program) (t : TypeId) : Option EqK :=
  match P.underlying t with
  | some (.int _) => some .int
  | some .bool => some .bool
  | some .string => some .str
  | _ => none

def eqFieldsOf (P : Program) : List Field → Option (List (Nat × EqK))
  | [] => some []
  | f :: l => if f.name = "_" then none else match eqkOf P f.type, eqFieldsOf P l with
    | some k, some r => some ((f.offset, k) :: r)
    | _, _ => none

def repl (n : Nat) (z : List AV) : List AV := match n with
  | 0 => []
  | n + 1 => z ++ repl n z

def isMovConv (P : Program) (src dst : TypeId) : Option IntKind :=
  match P.underlying src, P.underlying dst with
  | some (.int _), some (.int k) => some k
  | _, _ => none

def comOp (P : Program) (op : Op) : Option IOp :=
  match op with
  | .move x | .assign x => (comOperand x).map .mov
  | .pick c a b => match comOperand c, comOperand a, comOperand b with
    | some c, some a, some b => some (.pick c a b)
    | _, _, _ => none
  | .alloc t => (zeroOf P t).map .alloc
  | .box _ x => (comOperand x).map .box
  | .build t parts =>
    match P.underlying t with
    | some (.struct fs) => match zeroOf P t, placesOf P fs with
      | some z, some pl => (comParts (pl.toArray[·]?) parts.toList).map (.build z)
      | _, _ => none
    | some (.array _ e) => match zeroOf P t, sizeOf? P e with
      | some z, some s => (comParts (fun i => some (i * s, s)) parts.toList).map (.build z)
      | _, _ => none
    | _ => none
  | .buildSlice t len parts =>
    match P.underlying t with
    | some (.slice e) => match sizeOf? P e, zeroOf P e with
      | some s, some z => if s = 0 ∨ len * s > 16777216 ∨ z.length ≠ s then none else (comParts (fun i => some (i * s, s)) parts.toList).map (.bslice s len (repl len z))
      | _, _ => none
    | _ => none
  | .load t x => match aggOf P t, comOperand x with
    | some g, some x => some (.load g x)
    | _, _ => none
  | .store t x v => match sizeOf? P t, comOperand x, comOperand v with
    | some s, some x, some v => some (.store s x v)
    | _, _, _ => none
  | .nilCheck x => (comOperand x).map .nilchk
  | .binOp op t x y _ =>
    match P.underlying t, comOperand x, comOperand y with
    | some .bool, some x, some y => match op with
      | .eql => some (.eqb false x y)
      | .neq => some (.eqb true x y)
      | _ => none
    | some (.int _), some x, some y => some (.bin op x y)
    | some .string, some x, some y => some (.bin op x y)
    | some (.struct fs), some x, some y =>
      if P.stoodInHeld t || P.eqGuardType P.depth t then none else
      match op, eqFieldsOf P fs.toList with
      | .eql, some l => some (.eqs false l x y)
      | .neq, some l => some (.eqs true l x y)
      | _, _ => none
    | _, _, _ => none
  | .unOp op _ x => (comOperand x).map (.un op)
  | .convert src dst x =>
    match P.underlying src, P.underlying dst with
    | some (.int _), some (.int k) => (comOperand x).map (.conv k)
    | _, _ => none
  | .makeFunc (.func f) first cap => match first.toList.mapM comOperand, cap.toList.mapM comOperand with
    | some x, some y => some (.mkfn f x y)
    | _, _ => none
  | .makeSlice t l c =>
    match P.underlying t with
    | some (.slice e) => match sizeOf? P e, zeroOf P e, bytesOf? P e, comOperand l, comOperand c with
      | some s, some z, some b, some l, some c => if s = 0 ∨ z.length ≠ s ∨ b > 16777216 then none else some (.mkslice s b z l c)
      | _, _, _, _, _ => none
    | _ => none
  | .slice t x lo hi' mx =>
    match comOperand x, comO lo, comO hi' with
    | some x, some lo, some hi => match P.underlying t with
      | some (.slice e) => if mx.isSome = true ∧ hi'.isSome = false then none else match sizeOf? P e, comO mx with
        | some s, some mx => some (.slsl s x lo hi mx)
        | _, _ => none
      | some (.array n e) => if mx.isSome then none else (sizeOf? P e).map fun s => .slarr n s x lo hi
      | some .string => if mx.isSome then none else some (.slstr x lo hi)
      | _ => none
    | _, _, _ => none
  | .fieldAddr t x i =>
    match P.underlying t with
    | some (.struct fs) => match fs[i]? with
      | some f => match sizeOf? P f.type, comOperand x with
        | some s, some x => if s = 0 then none else some (.faddr f.offset x)
        | _, _ => none
      | none => none
    | _ => none
  | .field t x i =>
    match P.underlying t with
    | some (.struct fs) => match fs[i]? with
      | some f => match aggOf P f.type, comOperand x with
        | some g, some x => some (.field f.offset g x)
        | _, _ => none
      | none => none
    | _ => none
  | .indexAddr t x i =>
    match P.underlying t with
    | some (.slice e) => match sizeOf? P e, comOperand x, comOperand i with
      | some s, some x, some i => some (.idxs s x i)
      | _, _, _ => none
    | some (.array n e) => match sizeOf? P e, comOperand x, comOperand i with
      | some s, some x, some i => some (.idxarr n s x i)
      | _, _, _ => none
    | _ => none
  | .index t x i =>
    match P.underlying t with
    | some (.array n e) => match sizeOf? P e, aggOf P e, comOperand x, comOperand i with
      | some s, some g, some x, some i => some (.idxagg n s g.isSome x i)
      | _, _, _, _ => none
    | some .string => match comOperand x, comOperand i with
      | some x, some i => some (.idxstr x i)
      | _, _ => none
    | _ => none
  | .extract x i => (comOperand x).map (.extract · i)
  | .makeMap _ r => match r with
    | none => some .mkmap
    | some _ => none
  | .mapUpdate t m k x =>
    match P.underlying t with
    | some (.map kt _) => match eqkOf P kt, comOperand m, comOperand k, comOperand x with
      | some kd, some m, some k, some x => some (.mapset kd m k x)
      | _, _, _, _ => none
    | _ => none
  | .lookup t m k ok =>
    match P.underlying t with
    | some (.map kt et) => match eqkOf P kt, zeroV P et, comOperand m, comOperand k with
      | some kd, some z, some m, some k => some (.mapget kd z ok m k)
      | _, _, _, _ => none
    | _ => none
  | .call c =>
    match c.callee with
    | .value f => match comOperand f, c.args.toList.mapM comOperand with
      | some f, some l => some (.call f l)
      | _, _ => none
    | .builtin .len =>
      match c.argTypes[0]?, c.args[0]? with
      | some t, some x =>
        match P.underlying t with
        | some .string => (comOperand x).map (.len true)
        | some (.slice _) => (comOperand x).map (.len false)
        | some (.array n _) => some (.lenc n)
        | _ => none
      | _, _ => none
    | .builtin .append =>
      match c.argTypes[0]?, c.argTypes[1]?, c.args[0]?, c.args[1]? with
      | some t, some t2, some s, some x =>
        match P.underlying t, P.underlying t2 with
        | some (.slice e), some (.slice _) => match sizeOf? P e, zeroOf P e, bytesOf? P e, comOperand s, comOperand x with
          | some sz, some z, some b, some s, some x => if sz = 0 ∨ z.length ≠ sz ∨ b > 16777216 ∨ b = 0 then none else some (.append sz b z s x)
          | _, _, _, _, _ => none
        | some (.slice e), some (.int _) => match sizeOf? P e, zeroOf P e, bytesOf? P e, comOperand s, comOperand x with
          | some sz, some z, some b, some s, some x => if sz = 0 ∨ z.length ≠ sz ∨ b > 16777216 ∨ b = 0 then none else some (.appendz sz b z s x)
          | _, _, _, _, _ => none
        | _, _ => none
      | _, _, _, _ => none
    | .builtin .cap =>
      match c.argTypes[0]?, c.args[0]? with
      | some t, some x =>
        match P.underlying t with
        | some (.slice _) => (comOperand x).map .capo
        | _ => none
      | _, _ => none
    | .builtin .copy =>
      match c.argTypes[0]?, c.args[0]?, c.args[1]? with
      | some t, some d, some s =>
        match P.underlying t with
        | some (.slice e) => match sizeOf? P e, comOperand d, comOperand s with
          | some z, some d, some s => some (.copy z d s)
          | _, _, _ => none
        | _ => none
      | _, _, _ => none
    | .builtin .min => (c.args.toList.mapM comOperand).map (.minmax false)
    | .builtin .max => (c.args.toList.mapM comOperand).map (.minmax true)
    | _ => none
  | _ => none

/-- What cannot be read is kept as an operation that does not run. -/
def opOf (P : Program) (op : Op) : IOp :=
  match comOp P op with
  | some x => x
  | none => .bad

def comIO (P : Program) (ops : Array Oper) (o : Oper) : Option Opr :=
  match o.guard with
  | none => some ⟨o.dst, opOf P o.op, none⟩
  | some (g, b) => match (ops[g]?).bind (·.dst) with
    | some d => some ⟨o.dst, opOf P o.op, some (d, b)⟩
    | none => none

/-- What has to be listed ahead of each operation, where the order is drawn. -/
def presOf (ops : Array Oper) : List (List Nat) := ops.toList.map fun o => (o.after.toList.filter (Region.binds .any ·)).map (·.on)

def comC (P : Program) : Code → Option IC
  | .skip => some .skip
  | .label _ => some .skip
  | .region _ ops draw => (ops.toList.mapM (comIO P ops)).map (.region · (if draw then some (presOf ops) else none))
  | .seq a b => match comC P a, comC P b with
    | some a, some b => some (.seq a b)
    | _, _ => none
  | .cond c a b => match comOperand c, comC P a, comC P b with
    | some c, some a, some b => some (.cond c a b)
    | _, _, _ => none
  | .block id b => (comC P b).map (.block id)
  | .loop b => (comC P b).map .loop
  | .rangeFunc f ps ca cb => match comOperand f, comC P ca, comC P cb with
    | some f, some a, some b => some (.rangeFunc f ps.toList ca cb a b)
    | _, _, _ => none
  | .exit id => some (.exit id)
  | .scope _ => none
  | .ret => some .ret
  | .goto _ | .refuse _ => none

end Go.Am
