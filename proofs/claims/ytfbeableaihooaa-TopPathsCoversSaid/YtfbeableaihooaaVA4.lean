/-
  AN ABSTRACT MACHINE FOR PROOFS, PART 4. A general base for proofs: no program is named here.
-/
import Derived.Test.YtfbeableaihooaaVA3
namespace Go.Am
open Go Go.RowKit
def bI_add (k : IntKind) (a b : Int) : Option AV := some (.int k (k.wrap (a + b)))
def bI_sub (k : IntKind) (a b : Int) : Option AV := some (.int k (k.wrap (a - b)))
def bI_mul (k : IntKind) (a b : Int) : Option AV := some (.int k (k.wrap (a * b)))
def bI_quo (k : IntKind) (a b : Int) : Option AV := if b = 0 then none else some (.int k (k.wrap (a.tdiv b)))
def bI_rem (k : IntKind) (a b : Int) : Option AV := if b = 0 then none else some (.int k (a.tmod b))
def bI_and (k : IntKind) (a b : Int) : Option AV := some (.int k (k.wrap (BitVec.ofInt k.bits a &&& BitVec.ofInt k.bits b).toNat))
def bI_or (k : IntKind) (a b : Int) : Option AV := some (.int k (k.wrap (BitVec.ofInt k.bits a ||| BitVec.ofInt k.bits b).toNat))
def bI_xor (k : IntKind) (a b : Int) : Option AV := some (.int k (k.wrap (BitVec.ofInt k.bits a ^^^ BitVec.ofInt k.bits b).toNat))
def zti (k : IntKind) (a b : Int) : Option AV := some (.int k (k.wrap (BitVec.ofInt k.bits a &&& ~~~ BitVec.ofInt k.bits b).toNat))
def bI_shl (_k : IntKind) (_a _b : Int) : Option AV := none
def bI_shr (_k : IntKind) (_a _b : Int) : Option AV := none
def bI_eql (_k : IntKind) (a b : Int) : Option AV := some (.bool (a == b))
def bI_neq (_k : IntKind) (a b : Int) : Option AV := some (.bool (a != b))
def bI_lss (_k : IntKind) (a b : Int) : Option AV := some (.bool (decide (a < b)))
def bI_leq (_k : IntKind) (a b : Int) : Option AV := some (.bool (decide (a ≤ b)))
def bI_gtr (_k : IntKind) (a b : Int) : Option AV := some (.bool (decide (a > b)))
def bI_geq (_k : IntKind) (a b : Int) : Option AV := some (.bool (decide (a ≥ b)))
def ztl : BinOp → IntKind → Int → Int → Option AV := fun op => match op with
 | .add => bI_add
 | .sub => bI_sub
 | .mul => bI_mul
 | .quo => bI_quo
 | .rem => bI_rem
 | .and => bI_and
 | .or => bI_or
 | .xor => bI_xor
 | .andNot => zti
 | .shl => bI_shl
 | .shr => bI_shr
 | .eql => bI_eql
 | .neq => bI_neq
 | .lss => bI_lss
 | .leq => bI_leq
 | .gtr => bI_gtr
 | .geq => bI_geq
theorem zrq (op : BinOp) (k : IntKind) (a b : Int) : ztl op k a b = zc2 op k a b := by cases op <;> rfl
def zvi : BinOp → Bool := fun op => match op with
 | .shl => true
 | .shr => true
 | _ => false
def binII (op : BinOp) (k : IntKind) (a : Int) (k' : IntKind) (b : Int) : Option AV :=
 cond (zvi op) (zeu op k a b) (if k = k' then ztl op k a b else none)
def binA2 (op : BinOp) (k : IntKind) (a : Int) : AV → Option AV := fun y => match y with
 | .int k' b => binII op k a k' b
 | y => zk1 op (.int k a) y
def binA3 (op : BinOp) (a : List UInt8) : AV → Option AV := fun y => match y with
 | .str b => zim op a b
 | y => zk1 op (.str a) y
def binOpF (op : BinOp) (x : AV) : AV → Option AV := match x with
 | .int k a => binA2 op k a
 | .str a => binA3 op a
 | x => zk1 op x
theorem binII_eq (op : BinOp) (k : IntKind) (a : Int) (k' : IntKind) (b : Int) : binII op k a k' b = binOp op (.int k a) (.int k' b) := by
 cases op <;> simp only [binII, zvi, binOp, cond_true, cond_false, zrq]
theorem ztm (op : BinOp) (x y : AV) : binOpF op x y = binOp op x y := by
 cases x <;> cases y <;> first
  | rfl
  | exact binII_eq ..
  | (unfold binOp; rfl)
noncomputable def getL (ih : TM → Option AV) (t : TM) : Option AV := TM.rec (motive := fun _ => Option AV) none (fun _ l _ _ _ => ih l) t
noncomputable def getR (ih : TM → Option AV) (t : TM) : Option AV := TM.rec (motive := fun _ => Option AV) none (fun _ _ r _ _ => ih r) t
noncomputable def getV (t : TM) : Option AV := TM.rec (motive := fun _ => Option AV) none (fun v _ _ _ _ => v) t
noncomputable def zuw (p : List Bool) : TM → Option AV := List.rec (motive := fun _ => TM → Option AV) getV (fun b _ ih => Bool.rec (motive := fun _ => TM → Option AV) (getL ih) (getR ih) b) p
theorem getPK_eq (p : List Bool) : zuw p = TM.getP p := by
 induction p with
 | nil => funext t; cases t <;> rfl
 | cons b p ih =>
  show Bool.rec (motive := fun _ => TM → Option AV) (getL (zuw p)) (getR (zuw p)) b = zux b (TM.getP p)
  rw [ih]
  funext t
  cases b <;> cases t <;> rfl
noncomputable def argT (n : Nat) (S : AS) : Option AV := zuw (zfi n) S.tmps
def argC (v : AV) (_ : AS) : Option AV := some v
noncomputable def argD (a : Arg) : AS → Option AV := Arg.rec (motive := fun _ => AS → Option AV) argT argC a
noncomputable def zcn (S : AS) (a : Arg) : Option AV := argD a S
theorem zap (S : AS) (a : Arg) : zcn S a = S.arg a := by
 cases a with
 | c => rfl
 | t n => show zuw (zfi n) S.tmps = TM.getP (zfi n) S.tmps; rw [getPK_eq]
def consO (o1 : Option AV) (o2 : Option (List AV)) : Option (List AV) := match o1 with
 | some v => match o2 with
  | some vs => some (v :: vs)
  | none => none
 | none => none
noncomputable def zmm (S : AS) (l : List Arg) : Option (List AV) := List.rec (motive := fun _ => Option (List AV)) (some []) (fun a _ ih => consO (zcn S a) ih) l
theorem zgf (S : AS) (l : List Arg) : zmm S l = S.args l := by
 induction l with
 | nil => rfl
 | cons a l ih => show consO (zcn S a) (zmm S l) = _; rw [ih, zap, AS.args]; cases S.arg a <;> cases S.args l <;> rfl
noncomputable def zly (S : AS) (o : Option Arg) : Option (Option AV) := match o with
 | none => some none
 | some a => (zcn S a).map some
theorem zlz (S : AS) (o : Option Arg) : zly S o = S.oarg o := by
 cases o with
 | none => rfl
 | some a => simp only [zly, zap, AS.oarg]
def consP (off size : Nat) (o1 : Option AV) (o2 : Option (List (Nat × AV))) : Option (List (Nat × AV)) := match o1 with
 | some v => match o2 with
  | some r => match v.cells? with
   | some vs => if vs.length = size then some ((off, v) :: r) else none
   | none => none
  | none => none
 | none => none
noncomputable def zqp (S : AS) (l : List (Nat × Nat × Arg)) : Option (List (Nat × AV)) := List.rec (motive := fun _ => Option (List (Nat × AV))) (some []) (fun x _ ih => consP x.1 x.2.1 (zcn S x.2.2) ih) l
theorem znm (S : AS) (l : List (Nat × Nat × Arg)) : zqp S l = S.parts l := by
 induction l with
 | nil => rfl
 | cons x l ih => obtain ⟨a, b, c⟩ := x; show consP a b (zcn S c) (zqp S l) = _; rw [ih, zap, AS.parts]; cases S.arg c <;> cases S.parts l <;> rfl
noncomputable def i_mov (a : Arg) (S : AS) : Option (AV × AS) := (zcn S a).map (·, S)
noncomputable def zva (c : Arg) (a : Arg) (b : Arg) (S : AS) : Option (AV × AS) := match zcn S c with
  | some (.bool t) => (if t then zcn S a else zcn S b).map (·, S)
  | _ => none
noncomputable def zot (z : List AV) (S : AS) : Option (AV × AS) := some (.mptr S.next S.clk 0, S.new (.cells z))
noncomputable def i_box (a : Arg) (S : AS) : Option (AV × AS) := match zcn S a with
  | some v => match v.cells? with
   | some cs => some (.mptr S.next S.clk 0, S.new (.cells cs))
   | none => none
  | none => none
noncomputable def zou (z : List AV) (ps : List (Nat × Nat × Arg)) (S : AS) : Option (AV × AS) := match zqp S ps with
  | some l => match zbq z l with
   | some cs => some (.agg cs, S)
   | none => none
  | none => none
noncomputable def zlg (sz : Nat) (len : Nat) (z : List AV) (ps : List (Nat × Nat × Arg)) (S : AS) : Option (AV × AS) := match zqp S ps with
  | some l => match zbq z l with
   | some cs => some (.ms S.next S.clk sz 0 len (some len), S.new (.cells cs))
   | none => none
  | none => none
noncomputable def zv6 (agg : Option Nat) (a : Arg) (S : AS) : Option (AV × AS) := match zcn S a with
  | some p => match S.deref p with
   | some cs => match agg with
    | some n => if n ≤ cs.length then some (.agg (cs.take n), S) else none
    | none => match cs with
     | x :: _ => some (x, S)
     | [] => none
   | none => none
  | none => none
noncomputable def zp1 (size : Nat) (a : Arg) (v : Arg) (S : AS) : Option (AV × AS) := match zcn S a, zcn S v with
  | some p, some v => match v.cells? with
   | some vs => if vs.length = size then (S.store p vs).map (.tup [], ·) else none
   | none => none
  | _, _ => none
noncomputable def zln (a : Arg) (S : AS) : Option (AV × AS) := match zcn S a with
  | some (.vptr cs) => some (.vptr cs, S)
  | some (.mptr id st off) => some (.mptr id st off, S)
  | some (.fn f a b) => some (.fn f a b, S)
  | _ => none
noncomputable def i_bin (op : BinOp) (x : Arg) (y : Arg) (S : AS) : Option (AV × AS) := match zcn S x, zcn S y with
  | some a, some b => (binOpF op a b).map (·, S)
  | _, _ => none
noncomputable def i_eqb (neg : Bool) (x : Arg) (y : Arg) (S : AS) : Option (AV × AS) := match zcn S x, zcn S y with
  | some (.bool a), some (.bool b) => some (.bool (if neg then !(a == b) else a == b), S)
  | _, _ => none
noncomputable def i_eqs (neg : Bool) (fs : List (Nat × EqK)) (x : Arg) (y : Arg) (S : AS) : Option (AV × AS) := match zcn S x, zcn S y with
  | some (.agg a), some (.agg b) => match zud a b fs with
   | some r => some (.bool (if neg then !r else r), S)
   | none => none
  | _, _ => none
noncomputable def i_un (op : UnOp) (a : Arg) (S : AS) : Option (AV × AS) := match zcn S a with
  | some v => (unOp op v).map (·, S)
  | none => none
noncomputable def zv2 (k : IntKind) (a : Arg) (S : AS) : Option (AV × AS) := match zcn S a with
  | some v => (zoi k v).map (·, S)
  | none => none
noncomputable def zv7 (f : FuncId) (first : List Arg) (cap : List Arg) (S : AS) : Option (AV × AS) := match zmm S first, zmm S cap with
  | some a, some b => some (.fn f a b, S)
  | _, _ => none
noncomputable def zjb (sz : Nat) (bytes : Nat) (z : List AV) (l : Arg) (c : Arg) (S : AS) : Option (AV × AS) := match zcn S l, zcn S c with
  | some (.int _ l), some (.int _ c) =>
   if 0 ≤ l ∧ l ≤ c ∧ c ≤ 1048576 ∧ bytes ≤ 16777216 then some (.ms S.next S.clk sz 0 l.toNat (some c.toNat), S.new (.cells (zf9 c.toNat z))) else none
  | _, _ => none
noncomputable def zvb (sz : Nat) (x : Arg) (lo : Option Arg) (hi : Option Arg) (mx : Option Arg) (S : AS) : Option (AV × AS) := match zcn S x, zly S lo, zly S hi, zly S mx with
  | some v, some lo, some hi, some mx => (zsk sz v lo hi mx).map (·, S)
  | _, _, _, _ => none
noncomputable def zoz (n : Nat) (sz : Nat) (x : Arg) (lo : Option Arg) (hi : Option Arg) (S : AS) : Option (AV × AS) := match zcn S x, zly S lo, zly S hi with
  | some (.mptr id st off), some lo, some hi => match zca lo 0, zca hi n with
   | some l, some h => if 0 ≤ l ∧ l ≤ h ∧ h ≤ n then some (.ms id st sz (off + l.toNat * sz) (h.toNat - l.toNat) (some (n - l.toNat)), S) else none
   | _, _ => none
  | _, _, _ => none
noncomputable def zp0 (x : Arg) (lo : Option Arg) (hi : Option Arg) (S : AS) : Option (AV × AS) := match zcn S x, zly S lo, zly S hi with
  | some (.str s), some lo, some hi => match zca lo 0, zca hi s.length with
   | some l, some h => if 0 ≤ l ∧ l ≤ h ∧ h ≤ s.length then some (.str ((s.drop l.toNat).take (h.toNat - l.toNat)), S) else none
   | _, _ => none
  | _, _, _ => none
noncomputable def zow (off : Nat) (x : Arg) (S : AS) : Option (AV × AS) := match zcn S x with
  | some (.vptr cs) => if off ≤ cs.length then some (.vptr (cs.drop off), S) else none
  | some (.mptr id st o) => some (.mptr id st (o + off), S)
  | _ => none
noncomputable def zox (off : Nat) (agg : Option Nat) (x : Arg) (S : AS) : Option (AV × AS) := match zcn S x with
  | some (.agg cs) => match agg with
   | some n => if off + n ≤ cs.length then some (.agg ((cs.drop off).take n), S) else none
   | none => (cs[off]?).map (·, S)
  | _ => none
noncomputable def zv4 (sz : Nat) (x : Arg) (i : Arg) (S : AS) : Option (AV × AS) := match zcn S x, zcn S i with
  | some (.vs es), some (.int _ n) => if 0 ≤ n ∧ n < es.length then match es[n.toNat]? with
    | some e => if e.length = sz then some (.vptr e, S) else none
    | none => none
   else none
  | some (.ms id st sz' off len _), some (.int _ n) => if sz' = sz ∧ 0 ≤ n ∧ n < len then some (.mptr id st (off + n.toNat * sz), S) else none
  | _, _ => none
noncomputable def zli (n : Nat) (sz : Nat) (x : Arg) (i : Arg) (S : AS) : Option (AV × AS) := match zcn S x, zcn S i with
  | some (.vptr cs), some (.int _ k) => if 0 ≤ k ∧ k < n ∧ k.toNat * sz ≤ cs.length then some (.vptr (cs.drop (k.toNat * sz)), S) else none
  | some (.mptr id st off), some (.int _ k) => if 0 ≤ k ∧ k < n then some (.mptr id st (off + k.toNat * sz), S) else none
  | _, _ => none
noncomputable def zlh (n : Nat) (sz : Nat) (agg : Bool) (x : Arg) (i : Arg) (S : AS) : Option (AV × AS) := match zcn S x, zcn S i with
  | some (.agg cs), some (.int _ k) =>
   if 0 ≤ k ∧ k < n ∧ k.toNat * sz + sz ≤ cs.length then
    (if agg then some (.agg ((cs.drop (k.toNat * sz)).take sz), S) else (cs[k.toNat * sz]?).map (·, S))
   else none
  | _, _ => none
noncomputable def zlj (x : Arg) (i : Arg) (S : AS) : Option (AV × AS) := match zcn S x, zcn S i with
  | some (.str s), some (.int _ k) => if 0 ≤ k then match s[k.toNat]? with
    | some b => some (.int .u8 b.toNat, S)
    | none => none
   else none
  | _, _ => none
noncomputable def zja (x : Arg) (i : Nat) (S : AS) : Option (AV × AS) := match zcn S x with
  | some (.tup vs) => (vs[i]?).map (·, S)
  | _ => none
noncomputable def i_len (b : Bool) (a : Arg) (S : AS) : Option (AV × AS) := match zcn S a with
  | some v => (lenA b v).map (·, S)
  | none => none
noncomputable def zv5 (n : Nat) (S : AS) : Option (AV × AS) := some (.int .i64 n, S)
noncomputable def zlf (sz : Nat) (bytes : Nat) (_x2 : List AV) (s : Arg) (x : Arg) (S : AS) : Option (AV × AS) := match zcn S s, zcn S x with
  | some sv, some xv => match S.elems sz xv with
   | some es => zbi S sz bytes sv es
   | none => none
  | _, _ => none
noncomputable def zj9 (sz : Nat) (bytes : Nat) (z : List AV) (s : Arg) (n : Arg) (S : AS) : Option (AV × AS) := match zcn S s, zcn S n with
  | some sv, some (.int _ n) => zet S sz bytes z sv n
  | _, _ => none
noncomputable def zv1 (a : Arg) (S : AS) : Option (AV × AS) := match zcn S a with
  | some v => match capOf v with
   | some n => some (.int .i64 (n : Int), S)
   | none => none
  | none => none
noncomputable def zv8 (neg : Bool) (a : Arg) (S : AS) : Option (AV × AS) := match zcn S a with
  | some (.vs (_ :: _)) => some (.bool neg, S)
  | some (.ms _ _ _ _ (_ + 1) _) => some (.bool neg, S)
  | _ => none
noncomputable def zoy  (S : AS) : Option (AV × AS) := some (.mapv S.next S.clk, S.new (.map []))
noncomputable def zll (kd : EqK) (m : Arg) (k : Arg) (v : Arg) (S : AS) : Option (AV × AS) := match zcn S m, zcn S k, zcn S v with
  | some m, some k, some v => (S.mapset kd m k v).map (.tup [], ·)
  | _, _, _ => none
noncomputable def zlk (kd : EqK) (z : AV) (ok : Bool) (m : Arg) (k : Arg) (S : AS) : Option (AV × AS) := match zcn S m, zcn S k with
  | some m, some k => (S.mapget kd z ok m k).map (·, S)
  | _, _ => none
noncomputable def zv3 (sz : Nat) (d : Arg) (s : Arg) (S : AS) : Option (AV × AS) := match zcn S d, zcn S s with
  | some (.ms id st sz' off len _), some sv => match S.elems sz sv, look id S.heap with
   | some es, some (st', .cells cs) =>
    let new := (es.take len).flatten
    if st' = st ∧ sz' = sz ∧ off + len * sz ≤ cs.length ∧ new.all AV.isCell = true then
     some (.int .i64 (min es.length len : Nat), { S with heap := zaz id (st, .cells (setAt off cs new)) S.heap })
    else none
   | _, _ => none
  | _, _ => none
noncomputable def zov (sz : Nat) (z : List AV) (x : Arg) (S : AS) : Option (AV × AS) := match zcn S x with
  | some (.ms id st sz' off len _) => match look id S.heap with
   | some (st', .cells cs) =>
    if st' = st ∧ sz' = sz ∧ off + len * sz ≤ cs.length ∧ z.length = sz ∧ 0 < sz ∧ z.all AV.isCell = true then
     some (.tup [], { S with heap := zaz id (st, .cells (setAt off cs (zf9 len z))) S.heap })
    else none
   | _ => none
  | _ => none
noncomputable def zlm (mx : Bool) (args : List Arg) (S : AS) : Option (AV × AS) := match zmm S args with
  | some (.int k a :: l) => (l.foldlM (m := Option) (init := a) fun acc v => match v with
    | .int k' b => if k = k' then some (if mx then (if b > acc then b else acc) else (if b < acc then b else acc)) else none
    | _ => none).map fun n => (.int k n, S)
  | _ => none
def zv9 : AS → Option (AV × AS) := fun _ => none
noncomputable def zey : IOp → AS → Option (AV × AS) := fun op => match op with
 | .mov a => i_mov a
 | .pick a b c => zva a b c
 | .alloc a => zot a
 | .box a => i_box a
 | .build a b => zou a b
 | .bslice a b c d => zlg a b c d
 | .load a b => zv6 a b
 | .store a b c => zp1 a b c
 | .nilchk a => zln a
 | .bin a b c => i_bin a b c
 | .eqb a b c => i_eqb a b c
 | .eqs a b c d => i_eqs a b c d
 | .un a b => i_un a b
 | .conv a b => zv2 a b
 | .mkfn a b c => zv7 a b c
 | .mkslice a b c d e => zjb a b c d e
 | .slsl a b c d e => zvb a b c d e
 | .slarr a b c d e => zoz a b c d e
 | .slstr a b c => zp0 a b c
 | .faddr a b => zow a b
 | .field a b c => zox a b c
 | .idxs a b c => zv4 a b c
 | .idxarr a b c d => zli a b c d
 | .idxagg a b c d e => zlh a b c d e
 | .idxstr a b => zlj a b
 | .extract a b => zja a b
 | .len a b => i_len a b
 | .lenc a => zv5 a
 | .append a b c d e => zlf a b c d e
 | .appendz a b c d e => zj9 a b c d e
 | .capo a => zv1 a
 | .nilq a b => zv8 a b
 | .mkmap => zoy
 | .mapset a b c d => zll a b c d
 | .mapget a b c d e => zlk a b c d e
 | .copy a b c => zv3 a b c
 | .clear a b c => zov a b c
 | .minmax a b => zlm a b
 | .call _ _ => zv9
 | .bad => zv9
noncomputable def zez (S : AS) (op : IOp) : Option (AV × AS) := zey op S
theorem zvf (S : AS) (op : IOp) : zez S op = iop S op := by
 cases op
 case mov a => simp only [zez, zey, i_mov, zap]; rfl
 case pick a b c => simp only [zez, zey, zva, zap]; rfl
 case alloc a => simp only [zez, zey, zot]; rfl
 case box a => simp only [zez, zey, i_box, zap]; rfl
 case build a b => simp only [zez, zey, zou, znm]; rfl
 case bslice a b c d => simp only [zez, zey, zlg, znm]; rfl
 case load a b => simp only [zez, zey, zv6, zap]; rfl
 case store a b c => simp only [zez, zey, zp1, zap]; rfl
 case nilchk a => simp only [zez, zey, zln, zap]; rfl
 case bin op x y => simp only [zez, zey, i_bin, iop, ztm, zap]; cases S.arg x <;> cases S.arg y <;> rfl
 case eqb a b c => simp only [zez, zey, i_eqb, zap]; rfl
 case eqs a b c d => simp only [zez, zey, i_eqs, zap]; rfl
 case un a b => simp only [zez, zey, i_un, zap]; rfl
 case conv a b => simp only [zez, zey, zv2, zap]; rfl
 case mkfn a b c => simp only [zez, zey, zv7, zgf]; rfl
 case mkslice a b c d e => simp only [zez, zey, zjb, zap]; rfl
 case slsl a b c d e => simp only [zez, zey, zvb, zap, zlz]; rfl
 case slarr a b c d e => simp only [zez, zey, zoz, zap, zlz]; rfl
 case slstr a b c => simp only [zez, zey, zp0, zap, zlz]; rfl
 case faddr a b => simp only [zez, zey, zow, zap]; rfl
 case field a b c => simp only [zez, zey, zox, zap]; rfl
 case idxs a b c => simp only [zez, zey, zv4, zap]; rfl
 case idxarr a b c d => simp only [zez, zey, zli, zap]; rfl
 case idxagg a b c d e => simp only [zez, zey, zlh, zap]; rfl
 case idxstr a b => simp only [zez, zey, zlj, zap]; rfl
 case extract a b => simp only [zez, zey, zja, zap]; rfl
 case len a b => simp only [zez, zey, i_len, zap]; rfl
 case lenc a => simp only [zez, zey, zv5]; rfl
 case append a b c d e => simp only [zez, zey, zlf, zap]; rfl
 case appendz a b c d e => simp only [zez, zey, zj9, zap]; rfl
 case capo a => simp only [zez, zey, zv1, zap]; rfl
 case nilq a b => simp only [zez, zey, zv8, zap]; rfl
 case mkmap  => simp only [zez, zey, zoy]; rfl
 case mapset a b c d => simp only [zez, zey, zll, zap]; rfl
 case mapget a b c d e => simp only [zez, zey, zlk, zap]; rfl
 case copy a b c => simp only [zez, zey, zv3, zap]; rfl
 case clear a b c => simp only [zez, zey, zov, zap]; rfl
 case minmax a b => simp only [zez, zey, zlm, zgf]; rfl
 all_goals rfl
mutual
def AV.beq : AV → AV → Bool
 | .top, .top => true
 | .bool a, .bool b => a == b
 | .int k n, .int k' n' => decide (k = k') && decide (n = n')
 | .str s, .str t => decide (s = t)
 | .nilp, .nilp => true
 | .vptr a, .vptr b => zo2 a b
 | .mptr a b c, .mptr a' b' c' => a == a' && b == b' && c == c'
 | .nils, .nils => true
 | .vs a, .vs b => zrp a b
 | .ms a b c d e f, .ms a' b' c' d' e' f' => a == a' && b == b' && c == c' && d == d' && e == e' && decide (f = f')
 | .fn f a b, .fn f' a' b' => decide (f = f') && zo2 a a' && zo2 b b'
 | .yield a b, .yield a' b' => a == a' && b == b'
 | .nilf, .nilf => true
 | .agg a, .agg b => zo2 a b
 | .tup a, .tup b => zo2 a b
 | .mapv a b, .mapv a' b' => a == a' && b == b'
 | .rng k a b, .rng k' a' b' => decide (k = k') && decide (a = a') && decide (b = b')
 | .ints k l, .ints k' l' => decide (k = k') && decide (l = l')
 | .strA n a b, .strA n' a' b' => decide (n = n') && a == a' && b == b'
 | _, _ => false
def zo2 : List AV → List AV → Bool
 | [], [] => true
 | a :: l, b :: m => AV.beq a b && zo2 l m
 | _, _ => false
def zrp : List (List AV) → List (List AV) → Bool
 | [], [] => true
 | a :: l, b :: m => zo2 a b && zrp l m
 | _, _ => false
end
mutual
theorem AV.eq_of_beq : ∀ (a b : AV), AV.beq a b = true → a = b := fun a b h => by
 cases a <;> cases b <;> simp only [AV.beq, y0h, beq_iff_eq, decide_eq_true_eq, y0u] at h
 all_goals first
  | rfl
  | (subst h; rfl)
  | (obtain ⟨rfl, rfl⟩ := h; rfl)
  | (obtain ⟨⟨rfl, rfl⟩, rfl⟩ := h; rfl)
  | (obtain ⟨⟨⟨⟨⟨rfl, rfl⟩, rfl⟩, rfl⟩, rfl⟩, rfl⟩ := h; rfl)
  | skip
 case vptr a b => rw [zc4 a b h]
 case vs a b => rw [zj0 a b h]
 case fn f a b f' a' b' => obtain ⟨⟨rfl, h1⟩, h2⟩ := h; rw [zc4 _ _ h1, zc4 _ _ h2]
 case agg a b => rw [zc4 a b h]
 case tup a b => rw [zc4 a b h]
theorem zc4 : ∀ (a b : List AV), zo2 a b = true → a = b
 | [], [], _ => rfl
 | a :: l, b :: m, h => by
  simp only [zo2, y0h] at h
  rw [AV.eq_of_beq a b h.1, zc4 l m h.2]
 | [], _ :: _, h => by simp [zo2] at h
 | _ :: _, [], h => by simp [zo2] at h
theorem zj0 : ∀ (a b : List (List AV)), zrp a b = true → a = b
 | [], [], _ => rfl
 | a :: l, b :: m, h => by
  simp only [zrp, y0h] at h
  rw [zc4 a b h.1, zj0 l m h.2]
 | [], _ :: _, h => by simp [zrp] at h
 | _ :: _, [], h => by simp [zrp] at h
end
def zbu : IOp → Bool
 | .alloc _ | .box _ | .bslice .. | .store .. | .mkslice .. | .append .. | .appendz .. | .copy .. | .clear .. | .mkmap | .mapset .. | .call .. => true
 | _ => false
theorem zgp {S S1 : AS} {op : IOp} {v : AV} (hl : zbu op = false) (h : iop S op = some (v, S1)) : S1 = S := by
 cases op <;> simp only [zbu, Bool.true_eq_false] at hl <;> simp only [iop] at h
 all_goals (repeat' (split at h)) <;> simp only [y01, y00, y09, reduceCtorEq] at h
 all_goals first
   | (obtain ⟨_, rfl⟩ := h; rfl)
   | (obtain ⟨_, _, _, rfl⟩ := h; rfl)
structure FnI where
 size : Nat
 ic : IC
 res : List RA
structure Env where
 fn : FuncId → Option FnI
 orc : FuncId → List AV → Option AV
 sum : FuncId → List AV → HS → Option (AV × HS)
 pure : FuncId → Bool
 known : FuncId → Bool
 fuel : Nat
structure Rec where
 f : FuncId → List AV → HS → Option (AV × HS)
 c : Option (Nat × Nat) → IC → AS → Option (Exit × AS)
def zg0 (P : Program) (R : Rec) : Prop :=
 (∀ f args H v H', R.f f args H = some (v, H') → ∀ w0 N0, FT P w0 N0 f args H fun v1 H1 => v1 = v ∧ H1 = H') ∧
 (∀ rd ic S e S', R.c rd ic S = some (e, S') → ∀ w0 N0, T P w0 N0 rd ic S fun e1 S1 => e1 = e ∧ S1 = S')
structure EnvOk (P : Program) (E : Env) : Prop where
 fn : ∀ f i, E.fn f = some i → ∃ fn code, P.funcs[f]? = some fn ∧ fn.body = some code ∧ zgk P code = some i.ic ∧ fn.ntmps = i.size ∧ zf4 P fn.results.toList = some i.res ∧ Ent P f
 orc : ∀ f args v, E.orc f args = some v → PF P f args v
 sum : ∀ f args H v H', E.sum f args H = some (v, H') → ∀ w0 N0, FT P w0 N0 f args H fun v1 H1 => v1 = v ∧ H1 = H'
 mix : P.follows .mixedOrders = true
def zgt (marks : List (Nat × Nat)) (hp : List (Nat × Nat × AObj)) : Bool :=
 marks.all fun m => match look m.1 hp with
  | some (st, .deferred) => st == m.2
  | _ => false
theorem zke {marks : List (Nat × Nat)} {hp : List (Nat × Nat × AObj)} (h : zgt marks hp = true) : zc6 marks hp := by
 intro m hm
 have := y0d.1 h m hm
 split at this
 ·rename_i st hl; rw [hl]; simp at this; rw [this]
 ·cases this
def zdm (E : Env) (R : Rec) (S : AS) (fv : AV) (vs : List AV) : Option AV :=
 match fv with
 | .fn fid first cap => match E.orc fid ((first ++ vs ++ cap).map (S.view VD)) with
  | some v => if hasM.hasML (first ++ vs ++ cap) = false ∨ flat v = true then some v else none
  | none => if E.pure fid = true then
    match R.f fid ((first ++ vs ++ cap).map (S.view VD)) ⟨[], 0, 0⟩ with
    | some (v0, H) => if hasM.hasML (first ++ vs ++ cap) = false ∨ flat ((⟨0, .nil, H.heap, H.next, H.clk, []⟩ : AS).view VD v0) = true then some ((⟨0, .nil, H.heap, H.next, H.clk, []⟩ : AS).view VD v0) else none
    | none => none
   else none
 | _ => none
def zb8 (E : Env) (R : Rec) (S : AS) (io : Opr) : Option AV :=
 match io.op with
 | .call fa args => match S.arg fa, S.args args with
  | some fv, some vs => zdm E R S fv vs
  | _, _ => none
 | op => if zbu op then none else (iop S op).map (·.1)
def zxo (P : Program) (R : Rec) (id st : Nat) (args : List AV) (H : HS) : Option (AV × HS) :=
 match look id H.heap with
 | some (st', .loop .ready none size tmps ps ca cb _) =>
  if st' = st ∧ ps.length = args.length ∧ ps.all (fun p => decide (p < size)) = true then
   match zgk P ca, zgk P cb with
   | some ia, some ib => match R.c (some (id, st)) ia (AS.round size tmps ps args H) with
    | some (.normal, S1) => match look id S1.heap with
     | some (st1, .loop .ready none size1 tmps1 ps1 ca1 cb1 df1) =>
      if st1 = st then match R.c (some (id, st)) ib { S1 with heap := zaz id (st, .loop .busy none size1 tmps1 ps1 ca1 cb1 df1) S1.heap } with
       | some (e, S2) => match look id S2.heap with
        | some (st2, .loop .busy none size2 tmps2 ps2 ca2 cb2 df2) =>
         if st2 = st then match zqg e with
          | some j => some (.bool j.isNone, ⟨zaz id (st, .loop (if j.isNone then .ready else .done) j size2 tmps2 ps2 ca2 cb2 df2) S2.heap, S2.next, S2.clk⟩)
          | none => none
         else none
        | _ => none
       | none => none
      else none
     | _ => none
    | _ => none
   | _, _ => none
  else none
 | _ => none
def ztt (P : Program) (R : Rec) (fv : AV) (vs : List AV) (H : HS) : Option (AV × HS) :=
 match fv with
 | .fn fid first cap => R.f fid (first ++ vs ++ cap) H
 | .yield id st => zxo P R id st vs H
 | _ => none
def zg4 (P : Program) (R : Rec) (S : AS) (io : Opr) : Option (AV × HS) :=
 match io.op with
 | .call fa args => match S.arg fa, S.args args with
  | some fv, some vs => match ztt P R fv vs S.hs with
   | some (v, H) => if zgt S.marks H.heap then some (v, H) else none
   | none => none
  | _, _ => none
 | op => match iop S op with
  | some (v, S1) => some (v, S1.hs)
  | none => none
section
variable {P : Program} {w0 w : World} {N0 : Nat} {S S' S1 : AS} {rd : Option (Nat × Nat)} {Q : Exit → AS → Prop} {E : Env} {R : Rec} {io : Opr} {v : AV} {H : HS}
theorem zw7 (hE : EnvOk P E) (hR : zg0 P R) {fid : FuncId} {first cap vs : List AV} (h : zdm E R S (.fn fid first cap) vs = some v) :
  PF P fid ((first ++ vs ++ cap).map (S.view VD)) v ∧ (hasM.hasML (first ++ vs ++ cap) = false ∨ flat v = true) := by
 simp only [zdm] at h
 split at h
 ·rename_i v' hv
  split at h
  ·rename_i hc
   simp only [y00] at h; subst h
   exact ⟨hE.orc _ _ _ hv, hc⟩
  ·cases h
 ·split at h <;> try cases h
  split at h <;> try cases h
  rename_i v0 H0 hr
  split at h <;> try cases h
  rename_i hc
  exact ⟨zpo fun w0 N0 => (hR.1 _ _ _ _ _ hr w0 N0).mono fun v1 H1 ⟨e1, e2⟩ => by subst e1 e2; rfl, hc⟩
theorem zdn (hE : EnvOk P E) (hR : zg0 P R) (h : zb8 E R S io = some v) : Stp P w0 N0 rd io S fun S2 v2 => v2 = v ∧ S2 = S := by
 unfold zb8 at h
 split at h
 ·rename_i fa args hop
  split at h
  ·rename_i fv vs hf ha
   cases fv with
   | fn fid first cap =>
    obtain ⟨h1, hc⟩ := zw7 hE hR h
    exact (Stp_pure hop hf ha h1 (fun hm => hc.resolve_left (by rw [hm]; simp))).mono fun S v ⟨e1, e2⟩ => ⟨e2, e1⟩
   | _ => simp [zdm] at h
  ·cases h
 ·split at h
  ·cases h
  ·rename_i hl
   simp only [y01, Prod.exists, exists_and_right, exists_eq_right] at h
   obtain ⟨S1, h1⟩ := h
   obtain rfl := zgp (by simpa using hl) h1
   exact (zmh h1).mono fun S v ⟨e1, e2⟩ => ⟨e2, e1⟩
theorem zxp (hR : zg0 P R) {id st : Nat} {args : List AV} {H' : HS} (h : zxo P R id st args H = some (v, H')) : CT P w0 N0 (.yield id st) args H fun v1 H1 => v1 = v ∧ H1 = H' := by
 unfold zxo at h
 split at h <;> try cases h
 rename_i st' size tmps ps ca cb df hl
 split at h <;> try cases h
 rename_i hc
 obtain ⟨rfl, hps, hlt⟩ := hc
 split at h <;> try cases h
 rename_i ia ib hia hib
 split at h <;> try cases h
 rename_i S1 hc1
 split at h <;> try cases h
 rename_i st1 size1 tmps1 ps1 ca1 cb1 df1 hl1
 split at h <;> try cases h
 rename_i e1; subst e1
 split at h <;> try cases h
 rename_i e S2 hc2
 split at h <;> try cases h
 rename_i st2 size2 tmps2 ps2 ca2 cb2 df2 hl2
 split at h <;> try cases h
 rename_i e2; subst e2
 split at h <;> try cases h
 rename_i j hj
 refine zpn hl (zmv hia) (zmv hib) hps (fun p hp => by simpa using y0d.1 hlt p hp) (ze7 (hR.2 _ _ _ _ _ hc1 w0 N0) fun e3 S3 ⟨k1, k2⟩ => ?_)
 subst k1 k2
 refine ⟨rfl, _, _, _, _, _, _, hl1, ze7 (hR.2 _ _ _ _ _ hc2 w0 N0) fun e4 S4 ⟨k1, k2⟩ => ?_⟩
 subst k1 k2
 exact ⟨_, _, _, _, _, _, hl2, j, hj, rfl, rfl⟩
theorem callV_ok (hR : zg0 P R) {fv : AV} {vs : List AV} {H' : HS} (h : ztt P R fv vs H = some (v, H')) : CT P w0 N0 fv vs H fun v1 H1 => v1 = v ∧ H1 = H' := by
 unfold ztt at h
 split at h
 ·exact zgd (hR.1 _ _ _ _ _ h w0 N0)
 ·exact zxp hR h
 ·cases h
theorem zqj (hR : zg0 P R) {H' : HS} (h : zg4 P R S io = some (v, H')) : Stp P w0 N0 rd io S fun S2 v2 => v2 = v ∧ S2 = S.withH H' := by
 unfold zg4 at h
 split at h
 ·rename_i fa args hop
  split at h <;> try cases h
  rename_i fv vs hf ha
  split at h <;> try cases h
  rename_i v1 H1 hv
  split at h <;> try cases h
  rename_i hm
  exact (zmg hop hf ha (callV_ok hR hv) (fun v2 H2 ⟨_, e⟩ => e ▸ zke hm)).mono fun S2 v2 ⟨H2, ⟨e1, e2⟩, e3⟩ => ⟨e1, by rw [e3, e2]⟩
 ·split at h <;> try cases h
  rename_i v1 S1 h1
  exact (zmh h1).mono fun S2 v2 ⟨e1, e2⟩ => ⟨e2, by rw [e1]; exact zi6 h1⟩
end
end Go.Am
namespace Go.Am
open Go Go.RowKit
def zdw (P : Program) (E : Env) (R : Rec) (S : AS) (io : Opr) : Option (AV × HS) :=
 match zb8 E R S io with
 | some v => some (v, S.hs)
 | none => zg4 P R S io
def zsu (P : Program) (E : Env) (R : Rec) : List Opr → AS → Option AS
 | [], S => some S
 | io :: ios, S => match zah S io with
  | some true => match zdw P E R S io with
   | some (v, H) => if zbx S.size io.dst then zsu P E R ios ((S.withH H).put io.dst v) else none
   | none => none
  | some false => if zbx S.size io.dst then zsu P E R ios (S.put io.dst (.tup [])) else none
  | none => none
section
variable {P : Program} {w0 w : World} {N0 : Nat} {S S' S1 : AS} {rd : Option (Nat × Nat)} {Q : Exit → AS → Prop} {E : Env} {R : Rec} {io : Opr} {v : AV} {H : HS}
theorem zm7 (hE : EnvOk P E) (hR : zg0 P R) {H' : HS} (h : zdw P E R S io = some (v, H')) : Stp P w0 N0 rd io S fun S2 v2 => v2 = v ∧ S2 = S.withH H' := by
 unfold zdw at h
 split at h
 ·rename_i v1 hq
  simp only [y00, y09] at h
  obtain ⟨rfl, rfl⟩ := h
  exact zdn hE hR hq
 ·exact zqj hR h
theorem zpg (hE : EnvOk P E) (hR : zg0 P R) : ∀ {ios : List Opr} {S S' : AS}, zsu P E R ios S = some S' → TO P w0 N0 rd ios S fun S1 => S1 = S'
 | [], S, S', h => by
  simp only [zsu, y00] at h
  exact TO_nil h
 | io :: ios, S, S', h => by
  simp only [zsu] at h
  split at h
  ·rename_i hw
   split at h <;> try cases h
   rename_i v H hst
   split at h <;> try cases h
   rename_i hd
   exact zij (zm7 hE hR hst) hw fun S2 v2 ⟨e1, e2⟩ => by subst e1 e2; exact ⟨hd, zpg hE hR h⟩
  ·rename_i hw
   split at h <;> try cases h
   rename_i hd
   exact zt3 hw hd (zpg hE hR h)
  ·cases h
def zsp : List Nat → List Nat → List Nat
 | [], m => m
 | x :: l, m => if (zsp l m).contains x then zsp l m else x :: zsp l m
theorem zjh {x : Nat} : ∀ {l m : List Nat}, x ∈ zsp l m → x ∈ l ∨ x ∈ m
 | [], m, h => .inr h
 | y :: l, m, h => by
  simp only [zsp] at h
  split at h
  ·rcases zjh h with h | h
   ·exact .inl (y04 _ h)
   ·exact .inr h
  ·rcases y0j.1 h with rfl | h
   ·exact .inl (y05 ..)
   ·rcases zjh h with h | h
    ·exact .inl (y04 _ h)
    ·exact .inr h
def ze1 (tr : List Tr) : List Nat → List Nat
 | [] => []
 | p :: ps => zsp (p :: (match tr[p]? with | some t => t.anc | none => [])) (ze1 tr ps)
theorem zjg {tr : List Tr} {q : Nat} : ∀ {ps : List Nat}, q ∈ ze1 tr ps → ∃ p ∈ ps, q = p ∨ ∃ t, tr[p]? = some t ∧ q ∈ t.anc
 | [], h => by simp [ze1] at h
 | p :: ps, h => by
  rcases zjh h with h | h
  ·rcases y0j.1 h with rfl | h
   ·exact ⟨_, y05 .., .inl rfl⟩
   ·refine ⟨p, y05 .., .inr ?_⟩
    cases ht : tr[p]? with
    | none => simp [ht] at h
    | some t => exact ⟨t, rfl, by simpa [ht] using h⟩
  ·obtain ⟨p', h1, h2⟩ := zjg h
   exact ⟨p', y04 _ h1, h2⟩
structure DR where
 tr : List Tr
 louds : List Nat
 heaps : List HS
def zla (P : Program) (E : Env) (R : Rec) (S : AS) (rf : Nat → TM) : List Opr → List (List Nat) → List Tr → List Nat → List HS → HS → Option DR
 | [], [], tr, louds, heaps, H => some ⟨tr, louds, heaps ++ [H]⟩
 | io :: ios, ps :: pres, tr, louds, heaps, H =>
  if ps.all (fun p => decide (p < tr.length)) then
   let anc := ze1 tr ps
   let B := S.base (rf tr.length) tr anc H
   match zah B io with
   | some false => zla P E R S rf ios pres (tr ++ [⟨io.dst, .tup [], anc⟩]) louds heaps H
   | some true => match zb8 E R B io with
    | some v => zla P E R S rf ios pres (tr ++ [⟨io.dst, v, anc⟩]) louds heaps H
    | none => match zg4 P R B io with
     | some (v, H') => zla P E R S rf ios pres (tr ++ [⟨io.dst, v, anc⟩]) (louds ++ [tr.length]) (heaps ++ [H]) H'
     | none => none
   | none => none
  else none
 | _, _, _, _, _, _ => none
theorem zjp {tr tr' : List Tr} {rest : TM} : ∀ {l : List Nat}, (∀ p ∈ l, p < tr.length) → zfa (tr ++ tr') rest l = zfa tr rest l
 | [], _ => rfl
 | p :: l, h => by
  have hp : (tr ++ tr')[p]? = tr[p]? := y0w (h p (y05 ..))
  simp only [zfa, hp, zjp fun q hq => h q (y04 _ hq)]
theorem zil {tr tr' : List Tr} {rest : TM} {l : List Nat} (h : ∀ p ∈ l, p < tr.length) : S.base rest (tr ++ tr') l H = S.base rest tr l H := by
 simp only [AS.base, zjp h]
structure Inv1 (P : Program) (E : Env) (R : Rec) (S : AS) (rf : Nat → TM) (done : List Opr) (dpres : List (List Nat)) (tr : List Tr) (louds : List Nat) (heaps : List HS) (H : HS) : Prop where
 l1 : tr.length = done.length
 l2 : dpres.length = done.length
 l3 : heaps.length = louds.length
 h0 : (heaps ++ [H])[0]? = some S.hs
 dst : ∀ (i : Nat) (io : Opr) (t : Tr), done[i]? = some io → tr[i]? = some t → t.dst = io.dst
 acyc : ∀ (i : Nat) (ps : List Nat), dpres[i]? = some ps → ∀ p ∈ ps, p < i
 anc : ∀ (i : Nat) (ps : List Nat) (t : Tr), dpres[i]? = some ps → tr[i]? = some t → ∀ q ∈ t.anc, ∃ p ∈ ps, q = p ∨ ∃ t' : Tr, tr[p]? = some t' ∧ q ∈ t'.anc
 alt : ∀ (i : Nat) (t : Tr), tr[i]? = some t → ∀ q ∈ t.anc, q < i
 lob : ∀ l ∈ louds, l < done.length
 loud : ∀ (m l : Nat), louds[m]? = some l → ∃ io t H1 H2, done[l]? = some io ∧ tr[l]? = some t ∧ (heaps ++ [H])[m]? = some H1 ∧ (heaps ++ [H])[m + 1]? = some H2 ∧
  zah (S.base (rf l) tr t.anc H1) io = some true ∧ zg4 P R (S.base (rf l) tr t.anc H1) io = some (t.v, H2)
theorem zeb {α : Type} {l : List α} {x y : α} {i : Nat} (h : (l ++ [x])[i]? = some y) : l[i]? = some y ∨ (i = l.length ∧ y = x) := by
 rcases Nat.lt_trichotomy i l.length with h1 | h1 | h1
 ·left; rwa [y0w h1] at h
 ·right; subst h1; simp at h; exact ⟨rfl, h.symm⟩
 ·rw [y10 (by omega)] at h
  have : i - l.length ≠ 0 := by omega
  rw [List.getElem?_cons] at h; simp [this] at h
theorem zea {α : Type} {l m : List α} {y : α} {i : Nat} (h : l[i]? = some y) : (l ++ m)[i]? = some y := by
 rw [y0w (y03.1 h).1]; exact h
theorem Inv1.step {rf : Nat → TM} {done : List Opr} {dpres : List (List Nat)} {tr : List Tr} {louds : List Nat} {heaps : List HS} (h : Inv1 P E R S rf done dpres tr louds heaps H) {ps : List Nat}
  (hps : ∀ p ∈ ps, p < tr.length) :
  (∀ q ∈ ze1 tr ps, q < tr.length) ∧
  (
   (∀ io v, Inv1 P E R S rf (done ++ [io]) (dpres ++ [ps]) (tr ++ [⟨io.dst, v, ze1 tr ps⟩]) louds heaps H) ∧
   (∀ io v H', zah (S.base (rf tr.length) tr (ze1 tr ps) H) io = some true → zg4 P R (S.base (rf tr.length) tr (ze1 tr ps) H) io = some (v, H') →
    Inv1 P E R S rf (done ++ [io]) (dpres ++ [ps]) (tr ++ [⟨io.dst, v, ze1 tr ps⟩]) (louds ++ [tr.length]) (heaps ++ [H]) H')) := by
 have hanc : ∀ q ∈ ze1 tr ps, q < tr.length := by
  intro q hq
  obtain ⟨p, hp, h1⟩ := zjg hq
  rcases h1 with rfl | ⟨t, ht, hqt⟩
  ·exact hps _ hp
  ·have := h.alt p t ht q hqt
   have := hps p hp
   omega
 have hdst : ∀ (io : Opr) (v : AV) (i : Nat) (io' : Opr) (t : Tr), (done ++ [io])[i]? = some io' → (tr ++ [⟨io.dst, v, ze1 tr ps⟩])[i]? = some t → t.dst = io'.dst := by
  intro io v i io' t h1 h2
  rcases zeb h1 with h1 | ⟨e1, e2⟩ <;> rcases zeb h2 with h2 | ⟨e3, e4⟩
  ·exact h.dst i io' t h1 h2
  ·have := (y03.1 h1).1; rw [← h.l1] at this; omega
  ·have := (y03.1 h2).1; rw [h.l1] at this; omega
  ·subst e2 e4; rfl
 have hacyc : ∀ (i : Nat) (ps' : List Nat), (dpres ++ [ps])[i]? = some ps' → ∀ p ∈ ps', p < i := by
  intro i ps' h1
  rcases zeb h1 with h1 | ⟨e1, e2⟩
  ·exact h.acyc i ps' h1
  ·subst e1 e2; rw [h.l2, ← h.l1]; exact hps
 have hanc2 : ∀ (io : Opr) (v : AV) (i : Nat) (ps' : List Nat) (t : Tr), (dpres ++ [ps])[i]? = some ps' → (tr ++ [(⟨io.dst, v, ze1 tr ps⟩ : Tr)])[i]? = some t → ∀ q ∈ t.anc, ∃ p ∈ ps', q = p ∨ ∃ t' : Tr, (tr ++ [(⟨io.dst, v, ze1 tr ps⟩ : Tr)])[p]? = some t' ∧ q ∈ t'.anc := by
  intro io v i ps' t h1 h2 q hq
  rcases zeb h1 with h1 | ⟨e1, e2⟩ <;> rcases zeb h2 with h2 | ⟨e3, e4⟩
  ·obtain ⟨p, k1, k2⟩ := h.anc i ps' t h1 h2 q hq
   exact ⟨p, k1, k2.imp id fun ⟨t', k3, k4⟩ => ⟨t', zea k3, k4⟩⟩
  ·have := (y03.1 h1).1; rw [h.l2, ← h.l1] at this; omega
  ·have := (y03.1 h2).1; rw [h.l1, ← h.l2] at this; omega
  ·subst e2 e4
   obtain ⟨p, k1, k2⟩ := zjg hq
   exact ⟨p, k1, k2.imp id fun ⟨t', k3, k4⟩ => ⟨t', zea k3, k4⟩⟩
 have halt : ∀ (io : Opr) (v : AV) (i : Nat) (t : Tr), (tr ++ [(⟨io.dst, v, ze1 tr ps⟩ : Tr)])[i]? = some t → ∀ q ∈ t.anc, q < i := by
  intro io v i t h2
  rcases zeb h2 with h2 | ⟨e3, e4⟩
  ·exact h.alt i t h2
  ·subst e3 e4; exact hanc
 have hloud : ∀ (io : Opr) (v : AV) (m l : Nat) (hs : List HS) (H' : HS), louds[m]? = some l → (∀ (k : Nat) (y : HS), (heaps ++ [H])[k]? = some y → (hs ++ [H'])[k]? = some y) → ∃ io' t H1 H2, (done ++ [io])[l]? = some io' ∧ (tr ++ [(⟨io.dst, v, ze1 tr ps⟩ : Tr)])[l]? = some t ∧ (hs ++ [H'])[m]? = some H1 ∧ (hs ++ [H'])[m + 1]? = some H2 ∧
   zah (S.base (rf l) (tr ++ [(⟨io.dst, v, ze1 tr ps⟩ : Tr)]) t.anc H1) io' = some true ∧ zg4 P R (S.base (rf l) (tr ++ [(⟨io.dst, v, ze1 tr ps⟩ : Tr)]) t.anc H1) io' = some (t.v, H2) := by
  intro io v m l hs H' hm hk
  obtain ⟨io', t, H1, H2, k1, k2, k3, k4, k5, k6⟩ := h.loud m l hm
  have hb : S.base (rf l) (tr ++ [(⟨io.dst, v, ze1 tr ps⟩ : Tr)]) t.anc H1 = S.base (rf l) tr t.anc H1 := zil fun p hp => by
   have := h.alt l t k2 p hp
   have := (y03.1 k2).1
   omega
  exact ⟨io', t, H1, H2, zea k1, zea k2, hk _ _ k3, hk _ _ k4, by rw [hb]; exact k5, by rw [hb]; exact k6⟩
 refine ⟨hanc, fun io v => ⟨by simp [h.l1], by simp [h.l2], h.l3, h.h0, hdst io v, hacyc, hanc2 io v, halt io v, fun l hl => by have := h.lob l hl; simp; omega, fun m l hm => hloud io v m l heaps H hm fun k y hy => hy⟩,
  fun io v H' hw hl => ⟨by simp [h.l1], by simp [h.l2], by simp [h.l3], zea h.h0, hdst io v, hacyc, hanc2 io v, halt io v, fun l hl => ?_, fun m l hm => ?_⟩⟩
 ·rw [y0q] at hl
  rcases hl with hl | hl
  ·have := h.lob l hl; simp; omega
  ·simp at hl; subst hl; simp [h.l1]
 ·rcases zeb hm with hm | ⟨e1, e2⟩
  ·exact hloud io v m l (heaps ++ [H]) H' hm fun k y hy => zea hy
  ·subst e1 e2
   have hb : S.base (rf tr.length) (tr ++ [(⟨io.dst, v, ze1 tr ps⟩ : Tr)]) (ze1 tr ps) H = S.base (rf tr.length) tr (ze1 tr ps) H := zil hanc
   refine ⟨io, ⟨io.dst, v, ze1 tr ps⟩, H, H', by simp [h.l1], by simp, ?_, ?_, by rw [hb]; exact hw, by rw [hb]; exact hl⟩
   ·rw [← h.l3]; simp []
   ·rw [← h.l3]; simp []
theorem zhz {rf : Nat → TM} {D : DR} : ∀ {ios : List Opr} {pres : List (List Nat)} {done : List Opr} {dpres : List (List Nat)} {tr : List Tr} {louds : List Nat} {heaps : List HS} {H : HS}, Inv1 P E R S rf done dpres tr louds heaps H →
  zla P E R S rf ios pres tr louds heaps H = some D → ∃ hs Hn, D.heaps = hs ++ [Hn] ∧ Inv1 P E R S rf (done ++ ios) (dpres ++ pres) D.tr D.louds hs Hn
 | [], [], done, dpres, tr, louds, heaps, H, hI, h => by
  simp only [zla, y00] at h; subst h
  exact ⟨heaps, H, rfl, by simpa using hI⟩
 | io :: ios, ps :: pres, done, dpres, tr, louds, heaps, H, hI, h => by
  simp only [zla] at h
  split at h <;> try cases h
  rename_i hps
  obtain ⟨k1, k2, k3⟩ := hI.step (ps := ps) fun p hp => by simpa using y0d.1 hps p hp
  have e1 : done ++ io :: ios = (done ++ [io]) ++ ios := by simp
  have e2 : dpres ++ ps :: pres = (dpres ++ [ps]) ++ pres := by simp
  rw [e1, e2]
  split at h <;> try cases h
  ·exact zhz (k2 io _) h
  ·rename_i hw
   split at h
   ·exact zhz (k2 io _) h
   ·split at h <;> try cases h
    rename_i v H' hl
    exact zhz (k3 io v H' hw hl) h
 | [], _ :: _, _, _, _, _, _, _, _, h => by simp [zla] at h
 | _ :: _, [], _, _, _, _, _, _, _, h => by simp [zla] at h
end
end Go.Am
