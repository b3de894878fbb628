/-
  HOW THE OPERATIONS TURN AN ABSTRACT STATE. A general base for proofs: no program is named here.
-/
import Derived.Test.YtclefndccgmolaaDoorAmIr
namespace Go.Am
open Go Go.RowKit

def AS.arg (S : AS) : Arg → Option AV
  | .t n => S.get n
  | .c v => some v

def AS.args (S : AS) : List Arg → Option (List AV)
  | [] => some []
  | a :: l => match S.arg a, S.args l with
    | some v, some vs => some (v :: vs)
    | _, _ => none

/-- The cells that a value takes in memory. -/
def AV.cells? : AV → Option (List AV)
  | .top => none
  | .tup _ => none
  | .agg cs => some cs
  | v => some [v]

/-- A value that fills one cell. -/
def AV.isCell : AV → Bool
  | .top | .tup _ | .agg _ => false
  | _ => true

def AS.new (S : AS) (o : AObj) : AS := { S with heap := (S.next, S.clk, o) :: S.heap, next := S.next + 1, clk := S.clk + 1 }

def setAt {α : Type} (i : Nat) (xs vs : List α) : List α := xs.take i ++ vs ++ xs.drop (i + vs.length)

def fillParts : List AV → List (Nat × AV) → Option (List AV)
  | cs, [] => some cs
  | cs, (off, v) :: l => match v.cells? with
    | some vs => if off + vs.length ≤ cs.length then fillParts (setAt off cs vs) l else none
    | none => none

def AS.parts (S : AS) : List (Nat × Nat × Arg) → Option (List (Nat × AV))
  | [] => some []
  | (off, size, a) :: l => match S.arg a, S.parts l with
    | some v, some r => match v.cells? with
      | some vs => if vs.length = size then some ((off, v) :: r) else none
      | none => none
    | _, _ => none

/-- The cells behind a pointer, from there on. -/
def AS.deref (S : AS) : AV → Option (List AV)
  | .vptr cs => some cs
  | .mptr id st off => match look id S.heap with
    | some (st', .cells cs) => if st' = st then some (cs.drop off) else none
    | _ => none
  | _ => none

def AS.store (S : AS) (p : AV) (vs : List AV) : Option AS :=
  match p with
  | .mptr id st off => match look id S.heap with
    | some (st', .cells cs) =>
      if st' = st ∧ off + vs.length ≤ cs.length ∧ vs.all AV.isCell = true then some { S with heap := putl id (st, .cells (setAt off cs vs)) S.heap } else none
    | _ => none
  | _ => none

def binInt (op : BinOp) (k : IntKind) (a b : Int) : Option AV :=
  match op with
  | .add => some (.int k (k.wrap (a + b)))
  | .sub => some (.int k (k.wrap (a - b)))
  | .mul => some (.int k (k.wrap (a * b)))
  | .quo => if b = 0 then none else some (.int k (k.wrap (a.tdiv b)))
  | .rem => if b = 0 then none else some (.int k (a.tmod b))
  | .and => some (.int k (k.wrap (BitVec.ofInt k.bits a &&& BitVec.ofInt k.bits b).toNat))
  | .or => some (.int k (k.wrap (BitVec.ofInt k.bits a ||| BitVec.ofInt k.bits b).toNat))
  | .xor => some (.int k (k.wrap (BitVec.ofInt k.bits a ^^^ BitVec.ofInt k.bits b).toNat))
  | .andNot => some (.int k (k.wrap (BitVec.ofInt k.bits a &&& ~~~ BitVec.ofInt k.bits b).toNat))
  | .shl => none
  | .shr => none
  | .eql => some (.bool (a == b))
  | .neq => some (.bool (a != b))
  | .lss => some (.bool (decide (a < b)))
  | .leq => some (.bool (decide (a ≤ b)))
  | .gtr => some (.bool (decide (a > b)))
  | .geq => some (.bool (decide (a ≥ b)))

def binShift (op : BinOp) (k : IntKind) (a b : Int) : Option AV :=
  if b < 0 then none else
  match op with
  | .shl => some (.int k (k.wrap (a * 2 ^ (min b.toNat k.bits))))
  | .shr => some (.int k (a.fdiv (2 ^ (min b.toNat k.bits))))
  | _ => none

def binStr (op : BinOp) (x y : List UInt8) : Option AV :=
  match op with
  | .add => if x.length + y.length ≤ 1048576 then some (.str (x ++ y)) else none
  | .eql => some (.bool (x == y))
  | .neq => some (.bool (!(x == y)))
  | .lss => some (.bool (Op.bytesLess x y))
  | .leq => some (.bool (Op.bytesLess x y || x == y))
  | .gtr => some (.bool (!(Op.bytesLess x y || x == y)))
  | .geq => some (.bool (!(Op.bytesLess x y)))
  | _ => none

/-- A comparison of two numbers of which only ranges are known. -/
def cmpR (op : BinOp) (lo hi lo' hi' : Int) : Option Bool :=
  match op with
  | .lss => if hi < lo' then some true else if hi' ≤ lo then some false else none
  | .leq => if hi ≤ lo' then some true else if hi' < lo then some false else none
  | .gtr => if hi' < lo then some true else if hi ≤ lo' then some false else none
  | .geq => if hi' ≤ lo then some true else if hi < lo' then some false else none
  | .eql => if hi < lo' ∨ hi' < lo then some false else none
  | .neq => if hi < lo' ∨ hi' < lo then some true else none
  | _ => none

def remInts (op : BinOp) (l : List Int) (b : Int) : Option Int :=
  match op with
  | .rem => match l with
    | a :: _ => if b = 0 then none else if l.all (fun x => x.tmod b == a.tmod b) then some (a.tmod b) else none
    | [] => none
  | _ => none

def eqA (op : BinOp) (no : List (List UInt8)) (lo hi : Nat) (s : List UInt8) : Option Bool :=
  if s ∈ no ∨ s.length < lo ∨ hi < s.length then
    match op with
    | .eql => some false
    | .neq => some true
    | _ => none
  else none

/-- Values of which not all is known. -/
def binAbs (op : BinOp) (x y : AV) : Option AV :=
  match x, y with
  | .rng k lo hi, .int k' b => if k = k' then (cmpR op lo hi b b).map .bool else none
  | .int k a, .rng k' lo hi => if k = k' then (cmpR op a a lo hi).map .bool else none
  | .ints k l, .int k' b => if k = k' then (remInts op l b).map (.int k) else none
  | .strA no lo hi, .str s => (eqA op no lo hi s).map .bool
  | .str s, .strA no lo hi => (eqA op no lo hi s).map .bool
  | _, _ => none

def binOp (op : BinOp) (x y : AV) : Option AV :=
  match x, y with
  | .int k a, .int k' b =>
    match op with
    | .shl => binShift .shl k a b
    | .shr => binShift .shr k a b
    | op => if k = k' then binInt op k a b else none
  | .str a, .str b => binStr op a b
  | x, y => binAbs op x y

def eqK : EqK → AV → AV → Option Bool
  | .int, .int k a, .int k' b => if k = k' then some (a == b) else none
  | .bool, .bool a, .bool b => some (a == b)
  | .str, .str a, .str b => some (a == b)
  | _, _, _ => none

def eqFs (xs ys : List AV) : List (Nat × EqK) → Option Bool
  | [] => some true
  | (o, k) :: l => match xs[o]?, ys[o]? with
    | some x, some y => match eqK k x y, eqFs xs ys l with
      | some a, some b => some (a && b)
      | _, _ => none
    | _, _ => none

def unOp : UnOp → AV → Option AV
  | .neg, .int k n => some (.int k (k.wrap (0 - n)))
  | .xor, .int k n => some (.int k (k.wrap (BitVec.ofInt k.bits (if k.signed then -1 else k.max) ^^^ BitVec.ofInt k.bits n).toNat))
  | .not, .bool b => some (.bool !b)
  | _, _ => none

/-- Cells, a row of them a list. -/
def chunk (sz : Nat) : Nat → List AV → List (List AV)
  | 0, _ => []
  | n + 1, l => l.take sz :: chunk sz n (l.drop sz)

def optInt : Option AV → Int → Option Int
  | none, d => some d
  | some (.int _ n), _ => some n
  | some _, _ => none

def AS.oarg (S : AS) : Option Arg → Option (Option AV)
  | none => some none
  | some a => (S.arg a).map some

/-- The elements that a slice shows (each a list of cells). -/
def AS.elems (S : AS) (sz : Nat) : AV → Option (List (List AV))
  | .nils => some []
  | .vs es => if es.all (·.length == sz) then some es else none
  | .ms id st sz' off len _ => match look id S.heap with
    | some (st', .cells cs) => if st' = st ∧ sz' = sz ∧ off + len * sz ≤ cs.length then some (chunk sz len (cs.drop off)) else none
    | _ => none
  | _ => none

def lenOf : Bool → AV → Option Nat
  | false, .nils => some 0
  | false, .vs es => some es.length
  | false, .ms _ _ _ _ len _ => some len
  | true, .str s => some s.length
  | _, _ => none

def lenA (b : Bool) (v : AV) : Option AV :=
  match v with
  | .strA _ lo hi => if b then some (.rng .i64 lo hi) else none
  | v => (lenOf b v).map fun (n : Nat) => AV.int .i64 (n : Int)

theorem lenA_false {v r : AV} (h : lenA false v = some r) : ∃ n : Nat, lenOf false v = some n ∧ AV.int .i64 (n : Int) = r := by
  unfold lenA at h
  split at h
  · simp at h
  · simpa only [Option.map_eq_some_iff] using h

def convA (k : IntKind) (v : AV) : Option AV :=
  match v with
  | .int _ n => some (.int k (k.wrap n))
  | .ints _ l => some (.ints k (l.map k.wrap))
  | _ => none

def slslc (sz : Nat) (x : AV) (lo hi mx : Option AV) : Option AV :=
  match x with
  | .nils => match optInt lo 0, optInt hi 0, optInt mx 0 with
    | some l, some h, some m => if l = 0 ∧ h = 0 ∧ m = 0 then some .nils else none
    | _, _, _ => none
  | .vs es => match optInt lo 0, optInt hi es.length with
    | some l, some h => match mx with
      | none => if 0 ≤ l ∧ l ≤ h ∧ h ≤ es.length ∧ es.all (·.length == sz) = true then some (.vs ((es.drop l.toNat).take (h.toNat - l.toNat))) else none
      | some (.int _ m) => if l = 0 ∧ h = 0 ∧ m = 0 then some .nils else none
      | some _ => none
    | _, _ => none
  | .ms id st sz' off len cap => match optInt lo 0, optInt hi len with
    | some l, some h => match mx with
      | none => if sz' = sz ∧ 0 ≤ l ∧ l ≤ h ∧ h ≤ len then some (.ms id st sz (off + l.toNat * sz) (h.toNat - l.toNat) (cap.map (· - l.toNat))) else none
      | some (.int _ m) => if l = 0 ∧ h = 0 ∧ m = 0 then some .nils else none
      | some _ => none
    | _, _ => none
  | _ => none

def getEntry (kd : EqK) (k : AV) : List (AV × AV) → Option (Option AV)
  | [] => some none
  | (k', v) :: es => match eqK kd k k' with
    | some true => some (some v)
    | some false => getEntry kd k es
    | none => none

def setEntry (kd : EqK) (k v : AV) : List (AV × AV) → Option (List (AV × AV))
  | [] => some [(k, v)]
  | (k', v') :: es => match eqK kd k k' with
    | some true => some ((k, v) :: es)
    | some false => (setEntry kd k v es).map ((k', v') :: ·)
    | none => none

def gotEntry (ok : Bool) (z : AV) : Option AV → AV
  | some v => if ok then .tup [v, .bool true] else v
  | none => if ok then .tup [z, .bool false] else z

def AS.mapset (S : AS) (kd : EqK) (m k v : AV) : Option AS :=
  match m with
  | .mapv id st => match look id S.heap with
    | some (st', .map es) => if st' = st then (setEntry kd k v es).map fun es' => { S with heap := putl id (st, .map es') S.heap } else none
    | _ => none
  | _ => none

def AS.mapget (S : AS) (kd : EqK) (z : AV) (ok : Bool) (m k : AV) : Option AV :=
  match m with
  | .mapv id st => match look id S.heap with
    | some (st', .map es) => if st' = st then (getEntry kd k es).map (gotEntry ok z) else none
    | _ => none
  | _ => none

def capOf : AV → Option Nat
  | .nils => some 0
  | .ms _ _ _ _ _ (some k) => some k
  | _ => none

/-- The first cells of a list, if there are more. -/
def cutTo (n : Nat) (l : List AV) : List AV := if l.length = n then l else l.take n

theorem cutTo_eq (n : Nat) (l : List AV) : cutTo n l = l.take n := by
  unfold cutTo
  split
  · rename_i h; rw [← h, List.take_length]
  · rfl

def appendZ (S : AS) (sz bytes : Nat) (z : List AV) (sv : AV) (n : Int) : Option (AV × AS) :=
  match sv with
  | .nils => if 0 < n ∧ n ≤ 1048576 ∧ bytes ≤ 16777216 then some (.ms S.next S.clk sz 0 n.toNat none, S.new (.cells (repl n.toNat z))) else none
  | _ => none

def appendS (S : AS) (sz bytes : Nat) (sv : AV) (es : List (List AV)) : Option (AV × AS) :=
  if es.length = 0 then
    match sv with
    | .nils => some (.nils, S)
    | .vs l => some (.vs l, S)
    | .ms id st sz' off len cap => some (.ms id st sz' off len cap, S)
    | _ => none
  else if es.flatten.all AV.isCell = true ∧ bytes ≤ 16777216 then
    match sv with
    | .nils => if es.length ≤ 1048576 then some (.ms S.next S.clk sz 0 es.length none, S.new (.cells es.flatten)) else none
    | .ms id st sz' off len cap => match look id S.heap with
      | some (st', .cells cs) =>
        if st' = st ∧ sz' = sz ∧ off + len * sz ≤ cs.length ∧ len + es.length ≤ 1048576 then
          match cap with
          | some k =>
            if len + es.length ≤ k then
              (if off + (len + es.length) * sz ≤ cs.length then some (.ms id st sz off (len + es.length) (some k), { S with heap := putl id (st, .cells (setAt (off + len * sz) cs es.flatten)) S.heap }) else none)
            else some (.ms S.next S.clk sz 0 (len + es.length) none, S.new (.cells ((cs.drop off).take (len * sz) ++ es.flatten)))
          | none =>
            some (.ms id S.clk sz 0 (len + es.length) none, { S with heap := putl id (S.clk, .cells (cutTo (len * sz) (cs.drop off) ++ es.flatten)) S.heap, clk := S.clk + 1 })
        else none
      | _ => none
    | _ => none
  else none

def iop (S : AS) : IOp → Option (AV × AS)
  | .mov a => (S.arg a).map (·, S)
  | .pick c a b => match S.arg c with
    | some (.bool t) => (if t then S.arg a else S.arg b).map (·, S)
    | _ => none
  | .alloc z => some (.mptr S.next S.clk 0, S.new (.cells z))
  | .box a => match S.arg a with
    | some v => match v.cells? with
      | some cs => some (.mptr S.next S.clk 0, S.new (.cells cs))
      | none => none
    | none => none
  | .build z ps => match S.parts ps with
    | some l => match fillParts z l with
      | some cs => some (.agg cs, S)
      | none => none
    | none => none
  | .bslice sz len z ps => match S.parts ps with
    | some l => match fillParts z l with
      | some cs => some (.ms S.next S.clk sz 0 len (some len), S.new (.cells cs))
      | none => none
    | none => none
  | .load agg a => match S.arg a with
    | some p => match S.deref p with
      | some cs => match agg with
        | some n => if n ≤ cs.length then some (.agg (cs.take n), S) else none
        | none => match cs with
          | x :: _ => some (x, S)
          | [] => none
      | none => none
    | none => none
  | .store size a v => match S.arg a, S.arg v with
    | some p, some v => match v.cells? with
      | some vs => if vs.length = size then (S.store p vs).map (.tup [], ·) else none
      | none => none
    | _, _ => none
  | .nilchk a => match S.arg a with
    | some (.vptr cs) => some (.vptr cs, S)
    | some (.mptr id st off) => some (.mptr id st off, S)
    | some (.fn f a b) => some (.fn f a b, S)
    | _ => none
  | .bin op x y => match S.arg x, S.arg y with
    | some a, some b => (binOp op a b).map (·, S)
    | _, _ => none
  | .eqb neg x y => match S.arg x, S.arg y with
    | some (.bool a), some (.bool b) => some (.bool (if neg then !(a == b) else a == b), S)
    | _, _ => none
  | .eqs neg fs x y => match S.arg x, S.arg y with
    | some (.agg a), some (.agg b) => match eqFs a b fs with
      | some r => some (.bool (if neg then !r else r), S)
      | none => none
    | _, _ => none
  | .un op a => match S.arg a with
    | some v => (unOp op v).map (·, S)
    | none => none
  | .conv k a => match S.arg a with
    | some v => (convA k v).map (·, S)
    | none => none
  | .mkfn f first cap => match S.args first, S.args cap with
    | some a, some b => some (.fn f a b, S)
    | _, _ => none
  | .mkslice sz bytes z l c => match S.arg l, S.arg c with
    | some (.int _ l), some (.int _ c) =>
      if 0 ≤ l ∧ l ≤ c ∧ c ≤ 1048576 ∧ bytes ≤ 16777216 then some (.ms S.next S.clk sz 0 l.toNat (some c.toNat), S.new (.cells (repl c.toNat z))) else none
    | _, _ => none
  | .slsl sz x lo hi mx => match S.arg x, S.oarg lo, S.oarg hi, S.oarg mx with
    | some v, some lo, some hi, some mx => (slslc sz v lo hi mx).map (·, S)
    | _, _, _, _ => none
  | .slarr n sz x lo hi => match S.arg x, S.oarg lo, S.oarg hi with
    | some (.mptr id st off), some lo, some hi => match optInt lo 0, optInt hi n with
      | some l, some h => if 0 ≤ l ∧ l ≤ h ∧ h ≤ n then some (.ms id st sz (off + l.toNat * sz) (h.toNat - l.toNat) (some (n - l.toNat)), S) else none
      | _, _ => none
    | _, _, _ => none
  | .slstr x lo hi => match S.arg x, S.oarg lo, S.oarg hi with
    | some (.str s), some lo, some hi => match optInt lo 0, optInt hi s.length with
      | some l, some h => if 0 ≤ l ∧ l ≤ h ∧ h ≤ s.length then some (.str ((s.drop l.toNat).take (h.toNat - l.toNat)), S) else none
      | _, _ => none
    | _, _, _ => none
  | .faddr off x => match S.arg x with
    | some (.vptr cs) => if off ≤ cs.length then some (.vptr (cs.drop off), S) else none
    | some (.mptr id st o) => some (.mptr id st (o + off), S)
    | _ => none
  | .field off agg x => match S.arg x with
    | some (.agg cs) => match agg with
      | some n => if off + n ≤ cs.length then some (.agg ((cs.drop off).take n), S) else none
      | none => (cs[off]?).map (·, S)
    | _ => none
  | .idxs sz x i => match S.arg x, S.arg i with
    | some (.vs es), some (.int _ n) => if 0 ≤ n ∧ n < es.length then match es[n.toNat]? with
        | some e => if e.length = sz then some (.vptr e, S) else none
        | none => none
      else none
    | some (.ms id st sz' off len _), some (.int _ n) => if sz' = sz ∧ 0 ≤ n ∧ n < len then some (.mptr id st (off + n.toNat * sz), S) else none
    | _, _ => none
  | .idxarr n sz x i => match S.arg x, S.arg i with
    | some (.vptr cs), some (.int _ k) => if 0 ≤ k ∧ k < n ∧ k.toNat * sz ≤ cs.length then some (.vptr (cs.drop (k.toNat * sz)), S) else none
    | some (.mptr id st off), some (.int _ k) => if 0 ≤ k ∧ k < n then some (.mptr id st (off + k.toNat * sz), S) else none
    | _, _ => none
  | .idxagg n sz agg x i => match S.arg x, S.arg i with
    | some (.agg cs), some (.int _ k) =>
      if 0 ≤ k ∧ k < n ∧ k.toNat * sz + sz ≤ cs.length then
        (if agg then some (.agg ((cs.drop (k.toNat * sz)).take sz), S) else (cs[k.toNat * sz]?).map (·, S))
      else none
    | _, _ => none
  | .idxstr x i => match S.arg x, S.arg i with
    | some (.str s), some (.int _ k) => if 0 ≤ k then match s[k.toNat]? with
        | some b => some (.int .u8 b.toNat, S)
        | none => none
      else none
    | _, _ => none
  | .extract x i => match S.arg x with
    | some (.tup vs) => (vs[i]?).map (·, S)
    | _ => none
  | .len b a => match S.arg a with
    | some v => (lenA b v).map (·, S)
    | none => none
  | .lenc n => some (.int .i64 n, S)
  | .append sz bytes _ s x => match S.arg s, S.arg x with
    | some sv, some xv => match S.elems sz xv with
      | some es => appendS S sz bytes sv es
      | none => none
    | _, _ => none
  | .appendz sz bytes z s n => match S.arg s, S.arg n with
    | some sv, some (.int _ n) => appendZ S sz bytes z sv n
    | _, _ => none
  | .capo a => match S.arg a with
    | some v => match capOf v with
      | some n => some (.int .i64 (n : Int), S)
      | none => none
    | none => none
  | .mkmap => some (.mapv S.next S.clk, S.new (.map []))
  | .mapset kd m k v => match S.arg m, S.arg k, S.arg v with
    | some m, some k, some v => (S.mapset kd m k v).map (.tup [], ·)
    | _, _, _ => none
  | .mapget kd z ok m k => match S.arg m, S.arg k with
    | some m, some k => (S.mapget kd z ok m k).map (·, S)
    | _, _ => none
  | .copy sz d s => match S.arg d, S.arg s with
    | some (.ms id st sz' off len _), some sv => match S.elems sz sv, look id S.heap with
      | some es, some (st', .cells cs) =>
        let new := (es.take len).flatten
        if st' = st ∧ sz' = sz ∧ off + len * sz ≤ cs.length ∧ new.all AV.isCell = true then
          some (.int .i64 (min es.length len : Nat), { S with heap := putl id (st, .cells (setAt off cs new)) S.heap })
        else none
      | _, _ => none
    | _, _ => none
  | .minmax mx args => match S.args args with
    | some (.int k a :: l) => (l.foldlM (m := Option) (init := a) fun acc v => match v with
        | .int k' b => if k = k' then some (if mx then (if b > acc then b else acc) else (if b < acc then b else acc)) else none
        | _ => none).map fun n => (.int k n, S)
    | _ => none
  | .call _ _ => none
  | .bad => none

end Go.Am
