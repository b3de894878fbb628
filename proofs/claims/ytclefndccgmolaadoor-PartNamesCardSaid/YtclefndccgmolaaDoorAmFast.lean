/-
  THE OPERATIONS, EACH A SMALL FUNCTION OF ITS OWN (so that a kernel that steps through them copies little). A general base for proofs: no program is named here.
-/
import Derived.Test.YtclefndccgmolaaDoorAmDraw
namespace Go.Am
open Go Go.RowKit

def bI_add (k : IntKind) (a b : Int) : Option AV := some (.int k (k.wrap (a + b)))
def bI_sub (k : IntKind) (a b : Int) : Option AV := some (.int k (k.wrap (a - b)))
def bI_mul (k : IntKind) (a b : Int) : Option AV := some (.int k (k.wrap (a * b)))
def bI_quo (k : IntKind) (a b : Int) : Option AV := if b = 0 then none else some (.int k (k.wrap (a.tdiv b)))
def bI_rem (k : IntKind) (a b : Int) : Option AV := if b = 0 then none else some (.int k (a.tmod b))
def bI_and (k : IntKind) (a b : Int) : Option AV := some (.int k (k.wrap (BitVec.ofInt k.bits a &&& BitVec.ofInt k.bits b).toNat))
def bI_or (k : IntKind) (a b : Int) : Option AV := some (.int k (k.wrap (BitVec.ofInt k.bits a ||| BitVec.ofInt k.bits b).toNat))
def bI_xor (k : IntKind) (a b : Int) : Option AV := some (.int k (k.wrap (BitVec.ofInt k.bits a ^^^ BitVec.ofInt k.bits b).toNat))
def bI_andNot (k : IntKind) (a b : Int) : Option AV := some (.int k (k.wrap (BitVec.ofInt k.bits a &&& ~~~ BitVec.ofInt k.bits b).toNat))
def bI_shl (_k : IntKind) (_a _b : Int) : Option AV := none
def bI_shr (_k : IntKind) (_a _b : Int) : Option AV := none
def bI_eql (_k : IntKind) (a b : Int) : Option AV := some (.bool (a == b))
def bI_neq (_k : IntKind) (a b : Int) : Option AV := some (.bool (a != b))
def bI_lss (_k : IntKind) (a b : Int) : Option AV := some (.bool (decide (a < b)))
def bI_leq (_k : IntKind) (a b : Int) : Option AV := some (.bool (decide (a ≤ b)))
def bI_gtr (_k : IntKind) (a b : Int) : Option AV := some (.bool (decide (a > b)))
def bI_geq (_k : IntKind) (a b : Int) : Option AV := some (.bool (decide (a ≥ b)))

def binIntF : BinOp → IntKind → Int → Int → Option AV := fun op => match op with
  | .add => bI_add
  | .sub => bI_sub
  | .mul => bI_mul
  | .quo => bI_quo
  | .rem => bI_rem
  | .and => bI_and
  | .or => bI_or
  | .xor => bI_xor
  | .andNot => bI_andNot
  | .shl => bI_shl
  | .shr => bI_shr
  | .eql => bI_eql
  | .neq => bI_neq
  | .lss => bI_lss
  | .leq => bI_leq
  | .gtr => bI_gtr
  | .geq => bI_geq

theorem binIntF_eq (op : BinOp) (k : IntKind) (a b : Int) : binIntF op k a b = binInt op k a b := by cases op <;> rfl

def eqKindK {α : Type} (a b : IntKind) (x y : α) : α := if a = b then x else y

def isShift : BinOp → Bool := fun op => match op with
  | .shl => true
  | .shr => true
  | _ => false

def binII (op : BinOp) (k : IntKind) (a : Int) (k' : IntKind) (b : Int) : Option AV :=
  cond (isShift op) (binShift op k a b) (if k = k' then binIntF op k a b else none)

def binS : BinOp → List UInt8 → List UInt8 → Option AV := fun op x y => binStr op x y

def binA2 (op : BinOp) (k : IntKind) (a : Int) : AV → Option AV := fun y => match y with
  | .int k' b => binII op k a k' b
  | y => binAbs op (.int k a) y

def binA3 (op : BinOp) (a : List UInt8) : AV → Option AV := fun y => match y with
  | .str b => binStr op a b
  | y => binAbs op (.str a) y

def binOpF (op : BinOp) (x : AV) : AV → Option AV := match x with
  | .int k a => binA2 op k a
  | .str a => binA3 op a
  | x => binAbs op x

theorem binII_eq (op : BinOp) (k : IntKind) (a : Int) (k' : IntKind) (b : Int) : binII op k a k' b = binOp op (.int k a) (.int k' b) := by
  cases op <;> simp only [binII, isShift, binOp, cond_true, cond_false, binIntF_eq]

theorem binOpF_eq (op : BinOp) (x y : AV) : binOpF op x y = binOp op x y := by
  cases x <;> cases y <;> first
    | rfl
    | exact binII_eq ..
    | (unfold binOp; rfl)

noncomputable def getL (ih : TM → Option AV) (t : TM) : Option AV := TM.rec (motive := fun _ => Option AV) none (fun _ l _ _ _ => ih l) t
noncomputable def getR (ih : TM → Option AV) (t : TM) : Option AV := TM.rec (motive := fun _ => Option AV) none (fun _ _ r _ _ => ih r) t
noncomputable def getV (t : TM) : Option AV := TM.rec (motive := fun _ => Option AV) none (fun v _ _ _ _ => v) t
noncomputable def getPK (p : List Bool) : TM → Option AV := List.rec (motive := fun _ => TM → Option AV) getV (fun b _ ih => Bool.rec (motive := fun _ => TM → Option AV) (getL ih) (getR ih) b) p

theorem getPK_eq (p : List Bool) : getPK p = TM.getP p := by
  induction p with
  | nil => funext t; cases t <;> rfl
  | cons b p ih =>
    show Bool.rec (motive := fun _ => TM → Option AV) (getL (getPK p)) (getR (getPK p)) b = getStep b (TM.getP p)
    rw [ih]
    funext t
    cases b <;> cases t <;> rfl

noncomputable def argT (n : Nat) (S : AS) : Option AV := getPK (pathOf n) S.tmps
def argC (v : AV) (_ : AS) : Option AV := some v
noncomputable def argD (a : Arg) : AS → Option AV := Arg.rec (motive := fun _ => AS → Option AV) argT argC a
noncomputable def argK (S : AS) (a : Arg) : Option AV := argD a S

theorem argK_eq (S : AS) (a : Arg) : argK S a = S.arg a := by
  cases a with
  | c => rfl
  | t n => show getPK (pathOf n) S.tmps = TM.getP (pathOf n) S.tmps; rw [getPK_eq]

def consO (o1 : Option AV) (o2 : Option (List AV)) : Option (List AV) := match o1 with
  | some v => match o2 with
    | some vs => some (v :: vs)
    | none => none
  | none => none

noncomputable def argsK (S : AS) (l : List Arg) : Option (List AV) := List.rec (motive := fun _ => Option (List AV)) (some []) (fun a _ ih => consO (argK S a) ih) l

theorem argsK_eq (S : AS) (l : List Arg) : argsK S l = S.args l := by
  induction l with
  | nil => rfl
  | cons a l ih => show consO (argK S a) (argsK S l) = _; rw [ih, argK_eq, AS.args]; cases S.arg a <;> cases S.args l <;> rfl

noncomputable def oargK (S : AS) (o : Option Arg) : Option (Option AV) := match o with
  | none => some none
  | some a => (argK S a).map some

theorem oargK_eq (S : AS) (o : Option Arg) : oargK S o = S.oarg o := by
  cases o with
  | none => rfl
  | some a => simp only [oargK, argK_eq, AS.oarg]

def consP (off size : Nat) (o1 : Option AV) (o2 : Option (List (Nat × AV))) : Option (List (Nat × AV)) := match o1 with
  | some v => match o2 with
    | some r => match v.cells? with
      | some vs => if vs.length = size then some ((off, v) :: r) else none
      | none => none
    | none => none
  | none => none

noncomputable def partsK (S : AS) (l : List (Nat × Nat × Arg)) : Option (List (Nat × AV)) := List.rec (motive := fun _ => Option (List (Nat × AV))) (some []) (fun x _ ih => consP x.1 x.2.1 (argK S x.2.2) ih) l

theorem partsK_eq (S : AS) (l : List (Nat × Nat × Arg)) : partsK S l = S.parts l := by
  induction l with
  | nil => rfl
  | cons x l ih => obtain ⟨a, b, c⟩ := x; show consP a b (argK S c) (partsK S l) = _; rw [ih, argK_eq, AS.parts]; cases S.arg c <;> cases S.parts l <;> rfl

noncomputable def i_mov (a : Arg) (S : AS) : Option (AV × AS) := (argK S a).map (·, S)

noncomputable def i_pick (c : Arg) (a : Arg) (b : Arg) (S : AS) : Option (AV × AS) := match argK S c with
    | some (.bool t) => (if t then argK S a else argK S b).map (·, S)
    | _ => none

noncomputable def i_alloc (z : List AV) (S : AS) : Option (AV × AS) := some (.mptr S.next S.clk 0, S.new (.cells z))

noncomputable def i_box (a : Arg) (S : AS) : Option (AV × AS) := match argK S a with
    | some v => match v.cells? with
      | some cs => some (.mptr S.next S.clk 0, S.new (.cells cs))
      | none => none
    | none => none

noncomputable def i_build (z : List AV) (ps : List (Nat × Nat × Arg)) (S : AS) : Option (AV × AS) := match partsK S ps with
    | some l => match fillParts z l with
      | some cs => some (.agg cs, S)
      | none => none
    | none => none

noncomputable def i_bslice (sz : Nat) (len : Nat) (z : List AV) (ps : List (Nat × Nat × Arg)) (S : AS) : Option (AV × AS) := match partsK S ps with
    | some l => match fillParts z l with
      | some cs => some (.ms S.next S.clk sz 0 len (some len), S.new (.cells cs))
      | none => none
    | none => none

noncomputable def i_load (agg : Option Nat) (a : Arg) (S : AS) : Option (AV × AS) := match argK S a with
    | some p => match S.deref p with
      | some cs => match agg with
        | some n => if n ≤ cs.length then some (.agg (cs.take n), S) else none
        | none => match cs with
          | x :: _ => some (x, S)
          | [] => none
      | none => none
    | none => none

noncomputable def i_store (size : Nat) (a : Arg) (v : Arg) (S : AS) : Option (AV × AS) := match argK S a, argK S v with
    | some p, some v => match v.cells? with
      | some vs => if vs.length = size then (S.store p vs).map (.tup [], ·) else none
      | none => none
    | _, _ => none

noncomputable def i_nilchk (a : Arg) (S : AS) : Option (AV × AS) := match argK S a with
    | some (.vptr cs) => some (.vptr cs, S)
    | some (.mptr id st off) => some (.mptr id st off, S)
    | some (.fn f a b) => some (.fn f a b, S)
    | _ => none

noncomputable def i_bin (op : BinOp) (x : Arg) (y : Arg) (S : AS) : Option (AV × AS) := match argK S x, argK S y with
    | some a, some b => (binOpF op a b).map (·, S)
    | _, _ => none

noncomputable def i_eqb (neg : Bool) (x : Arg) (y : Arg) (S : AS) : Option (AV × AS) := match argK S x, argK S y with
    | some (.bool a), some (.bool b) => some (.bool (if neg then !(a == b) else a == b), S)
    | _, _ => none

noncomputable def i_eqs (neg : Bool) (fs : List (Nat × EqK)) (x : Arg) (y : Arg) (S : AS) : Option (AV × AS) := match argK S x, argK S y with
    | some (.agg a), some (.agg b) => match eqFs a b fs with
      | some r => some (.bool (if neg then !r else r), S)
      | none => none
    | _, _ => none

noncomputable def i_un (op : UnOp) (a : Arg) (S : AS) : Option (AV × AS) := match argK S a with
    | some v => (unOp op v).map (·, S)
    | none => none

noncomputable def i_conv (k : IntKind) (a : Arg) (S : AS) : Option (AV × AS) := match argK S a with
    | some v => (convA k v).map (·, S)
    | none => none

noncomputable def i_mkfn (f : FuncId) (first : List Arg) (cap : List Arg) (S : AS) : Option (AV × AS) := match argsK S first, argsK S cap with
    | some a, some b => some (.fn f a b, S)
    | _, _ => none

noncomputable def i_mkslice (sz : Nat) (bytes : Nat) (z : List AV) (l : Arg) (c : Arg) (S : AS) : Option (AV × AS) := match argK S l, argK S c with
    | some (.int _ l), some (.int _ c) =>
      if 0 ≤ l ∧ l ≤ c ∧ c ≤ 1048576 ∧ bytes ≤ 16777216 then some (.ms S.next S.clk sz 0 l.toNat (some c.toNat), S.new (.cells (repl c.toNat z))) else none
    | _, _ => none

noncomputable def i_slsl (sz : Nat) (x : Arg) (lo : Option Arg) (hi : Option Arg) (mx : Option Arg) (S : AS) : Option (AV × AS) := match argK S x, oargK S lo, oargK S hi, oargK S mx with
    | some v, some lo, some hi, some mx => (slslc sz v lo hi mx).map (·, S)
    | _, _, _, _ => none

noncomputable def i_slarr (n : Nat) (sz : Nat) (x : Arg) (lo : Option Arg) (hi : Option Arg) (S : AS) : Option (AV × AS) := match argK S x, oargK S lo, oargK S hi with
    | some (.mptr id st off), some lo, some hi => match optInt lo 0, optInt hi n with
      | some l, some h => if 0 ≤ l ∧ l ≤ h ∧ h ≤ n then some (.ms id st sz (off + l.toNat * sz) (h.toNat - l.toNat) (some (n - l.toNat)), S) else none
      | _, _ => none
    | _, _, _ => none

noncomputable def i_slstr (x : Arg) (lo : Option Arg) (hi : Option Arg) (S : AS) : Option (AV × AS) := match argK S x, oargK S lo, oargK S hi with
    | some (.str s), some lo, some hi => match optInt lo 0, optInt hi s.length with
      | some l, some h => if 0 ≤ l ∧ l ≤ h ∧ h ≤ s.length then some (.str ((s.drop l.toNat).take (h.toNat - l.toNat)), S) else none
      | _, _ => none
    | _, _, _ => none

noncomputable def i_faddr (off : Nat) (x : Arg) (S : AS) : Option (AV × AS) := match argK S x with
    | some (.vptr cs) => if off ≤ cs.length then some (.vptr (cs.drop off), S) else none
    | some (.mptr id st o) => some (.mptr id st (o + off), S)
    | _ => none

noncomputable def i_field (off : Nat) (agg : Option Nat) (x : Arg) (S : AS) : Option (AV × AS) := match argK S x with
    | some (.agg cs) => match agg with
      | some n => if off + n ≤ cs.length then some (.agg ((cs.drop off).take n), S) else none
      | none => (cs[off]?).map (·, S)
    | _ => none

noncomputable def i_idxs (sz : Nat) (x : Arg) (i : Arg) (S : AS) : Option (AV × AS) := match argK S x, argK S i with
    | some (.vs es), some (.int _ n) => if 0 ≤ n ∧ n < es.length then match es[n.toNat]? with
        | some e => if e.length = sz then some (.vptr e, S) else none
        | none => none
      else none
    | some (.ms id st sz' off len _), some (.int _ n) => if sz' = sz ∧ 0 ≤ n ∧ n < len then some (.mptr id st (off + n.toNat * sz), S) else none
    | _, _ => none

noncomputable def i_idxarr (n : Nat) (sz : Nat) (x : Arg) (i : Arg) (S : AS) : Option (AV × AS) := match argK S x, argK S i with
    | some (.vptr cs), some (.int _ k) => if 0 ≤ k ∧ k < n ∧ k.toNat * sz ≤ cs.length then some (.vptr (cs.drop (k.toNat * sz)), S) else none
    | some (.mptr id st off), some (.int _ k) => if 0 ≤ k ∧ k < n then some (.mptr id st (off + k.toNat * sz), S) else none
    | _, _ => none

noncomputable def i_idxagg (n : Nat) (sz : Nat) (agg : Bool) (x : Arg) (i : Arg) (S : AS) : Option (AV × AS) := match argK S x, argK S i with
    | some (.agg cs), some (.int _ k) =>
      if 0 ≤ k ∧ k < n ∧ k.toNat * sz + sz ≤ cs.length then
        (if agg then some (.agg ((cs.drop (k.toNat * sz)).take sz), S) else (cs[k.toNat * sz]?).map (·, S))
      else none
    | _, _ => none

noncomputable def i_idxstr (x : Arg) (i : Arg) (S : AS) : Option (AV × AS) := match argK S x, argK S i with
    | some (.str s), some (.int _ k) => if 0 ≤ k then match s[k.toNat]? with
        | some b => some (.int .u8 b.toNat, S)
        | none => none
      else none
    | _, _ => none

noncomputable def i_extract (x : Arg) (i : Nat) (S : AS) : Option (AV × AS) := match argK S x with
    | some (.tup vs) => (vs[i]?).map (·, S)
    | _ => none

noncomputable def i_len (b : Bool) (a : Arg) (S : AS) : Option (AV × AS) := match argK S a with
    | some v => (lenA b v).map (·, S)
    | none => none

noncomputable def i_lenc (n : Nat) (S : AS) : Option (AV × AS) := some (.int .i64 n, S)

noncomputable def i_append (sz : Nat) (bytes : Nat) (_x2 : List AV) (s : Arg) (x : Arg) (S : AS) : Option (AV × AS) := match argK S s, argK S x with
    | some sv, some xv => match S.elems sz xv with
      | some es => appendS S sz bytes sv es
      | none => none
    | _, _ => none

noncomputable def i_appendz (sz : Nat) (bytes : Nat) (z : List AV) (s : Arg) (n : Arg) (S : AS) : Option (AV × AS) := match argK S s, argK S n with
    | some sv, some (.int _ n) => appendZ S sz bytes z sv n
    | _, _ => none

noncomputable def i_capo (a : Arg) (S : AS) : Option (AV × AS) := match argK S a with
    | some v => match capOf v with
      | some n => some (.int .i64 (n : Int), S)
      | none => none
    | none => none

noncomputable def i_mkmap  (S : AS) : Option (AV × AS) := some (.mapv S.next S.clk, S.new (.map []))

noncomputable def i_mapset (kd : EqK) (m : Arg) (k : Arg) (v : Arg) (S : AS) : Option (AV × AS) := match argK S m, argK S k, argK S v with
    | some m, some k, some v => (S.mapset kd m k v).map (.tup [], ·)
    | _, _, _ => none

noncomputable def i_mapget (kd : EqK) (z : AV) (ok : Bool) (m : Arg) (k : Arg) (S : AS) : Option (AV × AS) := match argK S m, argK S k with
    | some m, some k => (S.mapget kd z ok m k).map (·, S)
    | _, _ => none

noncomputable def i_copy (sz : Nat) (d : Arg) (s : Arg) (S : AS) : Option (AV × AS) := match argK S d, argK S s with
    | some (.ms id st sz' off len _), some sv => match S.elems sz sv, look id S.heap with
      | some es, some (st', .cells cs) =>
        let new := (es.take len).flatten
        if st' = st ∧ sz' = sz ∧ off + len * sz ≤ cs.length ∧ new.all AV.isCell = true then
          some (.int .i64 (min es.length len : Nat), { S with heap := putl id (st, .cells (setAt off cs new)) S.heap })
        else none
      | _, _ => none
    | _, _ => none

noncomputable def i_minmax (mx : Bool) (args : List Arg) (S : AS) : Option (AV × AS) := match argsK S args with
    | some (.int k a :: l) => (l.foldlM (m := Option) (init := a) fun acc v => match v with
        | .int k' b => if k = k' then some (if mx then (if b > acc then b else acc) else (if b < acc then b else acc)) else none
        | _ => none).map fun n => (.int k n, S)
    | _ => none

def i_none : AS → Option (AV × AS) := fun _ => none

noncomputable def iopD : IOp → AS → Option (AV × AS) := fun op => match op with
  | .mov a => i_mov a
  | .pick a b c => i_pick a b c
  | .alloc a => i_alloc a
  | .box a => i_box a
  | .build a b => i_build a b
  | .bslice a b c d => i_bslice a b c d
  | .load a b => i_load a b
  | .store a b c => i_store a b c
  | .nilchk a => i_nilchk a
  | .bin a b c => i_bin a b c
  | .eqb a b c => i_eqb a b c
  | .eqs a b c d => i_eqs a b c d
  | .un a b => i_un a b
  | .conv a b => i_conv a b
  | .mkfn a b c => i_mkfn a b c
  | .mkslice a b c d e => i_mkslice a b c d e
  | .slsl a b c d e => i_slsl a b c d e
  | .slarr a b c d e => i_slarr a b c d e
  | .slstr a b c => i_slstr a b c
  | .faddr a b => i_faddr a b
  | .field a b c => i_field a b c
  | .idxs a b c => i_idxs a b c
  | .idxarr a b c d => i_idxarr a b c d
  | .idxagg a b c d e => i_idxagg a b c d e
  | .idxstr a b => i_idxstr a b
  | .extract a b => i_extract a b
  | .len a b => i_len a b
  | .lenc a => i_lenc a
  | .append a b c d e => i_append a b c d e
  | .appendz a b c d e => i_appendz a b c d e
  | .capo a => i_capo a
  | .mkmap => i_mkmap
  | .mapset a b c d => i_mapset a b c d
  | .mapget a b c d e => i_mapget a b c d e
  | .copy a b c => i_copy a b c
  | .minmax a b => i_minmax a b
  | .call _ _ => i_none
  | .bad => i_none

noncomputable def iopF (S : AS) (op : IOp) : Option (AV × AS) := iopD op S

theorem iopF_eq (S : AS) (op : IOp) : iopF S op = iop S op := by
  cases op
  case mov a => simp only [iopF, iopD, i_mov, argK_eq]; rfl
  case pick a b c => simp only [iopF, iopD, i_pick, argK_eq]; rfl
  case alloc a => simp only [iopF, iopD, i_alloc]; rfl
  case box a => simp only [iopF, iopD, i_box, argK_eq]; rfl
  case build a b => simp only [iopF, iopD, i_build, partsK_eq]; rfl
  case bslice a b c d => simp only [iopF, iopD, i_bslice, partsK_eq]; rfl
  case load a b => simp only [iopF, iopD, i_load, argK_eq]; rfl
  case store a b c => simp only [iopF, iopD, i_store, argK_eq]; rfl
  case nilchk a => simp only [iopF, iopD, i_nilchk, argK_eq]; rfl
  case bin op x y => simp only [iopF, iopD, i_bin, iop, binOpF_eq, argK_eq]; cases S.arg x <;> cases S.arg y <;> rfl
  case eqb a b c => simp only [iopF, iopD, i_eqb, argK_eq]; rfl
  case eqs a b c d => simp only [iopF, iopD, i_eqs, argK_eq]; rfl
  case un a b => simp only [iopF, iopD, i_un, argK_eq]; rfl
  case conv a b => simp only [iopF, iopD, i_conv, argK_eq]; rfl
  case mkfn a b c => simp only [iopF, iopD, i_mkfn, argsK_eq]; rfl
  case mkslice a b c d e => simp only [iopF, iopD, i_mkslice, argK_eq]; rfl
  case slsl a b c d e => simp only [iopF, iopD, i_slsl, argK_eq, oargK_eq]; rfl
  case slarr a b c d e => simp only [iopF, iopD, i_slarr, argK_eq, oargK_eq]; rfl
  case slstr a b c => simp only [iopF, iopD, i_slstr, argK_eq, oargK_eq]; rfl
  case faddr a b => simp only [iopF, iopD, i_faddr, argK_eq]; rfl
  case field a b c => simp only [iopF, iopD, i_field, argK_eq]; rfl
  case idxs a b c => simp only [iopF, iopD, i_idxs, argK_eq]; rfl
  case idxarr a b c d => simp only [iopF, iopD, i_idxarr, argK_eq]; rfl
  case idxagg a b c d e => simp only [iopF, iopD, i_idxagg, argK_eq]; rfl
  case idxstr a b => simp only [iopF, iopD, i_idxstr, argK_eq]; rfl
  case extract a b => simp only [iopF, iopD, i_extract, argK_eq]; rfl
  case len a b => simp only [iopF, iopD, i_len, argK_eq]; rfl
  case lenc a => simp only [iopF, iopD, i_lenc]; rfl
  case append a b c d e => simp only [iopF, iopD, i_append, argK_eq]; rfl
  case appendz a b c d e => simp only [iopF, iopD, i_appendz, argK_eq]; rfl
  case capo a => simp only [iopF, iopD, i_capo, argK_eq]; rfl
  case mkmap  => simp only [iopF, iopD, i_mkmap]; rfl
  case mapset a b c d => simp only [iopF, iopD, i_mapset, argK_eq]; rfl
  case mapget a b c d e => simp only [iopF, iopD, i_mapget, argK_eq]; rfl
  case copy a b c => simp only [iopF, iopD, i_copy, argK_eq]; rfl
  case minmax a b => simp only [iopF, iopD, i_minmax, argsK_eq]; rfl
  all_goals rfl

end Go.Am
