/-
  AN ABSTRACT MACHINE FOR PROOFS, PART 4. A general base for proofs: no program is named here.
-/
import Derived.Test.YtfbeableaihooaaNA3
namespace Go.Am
open Go Go.RowKit
def bI_add (k : IntKind) (a b : Int) : Option AV := some (.int k (k.wrap (a + b)))
def bI_sub (k : IntKind) (a b : Int) : Option AV := some (.int k (k.wrap (a - b)))
def bI_mul (k : IntKind) (a b : Int) : Option AV := some (.int k (k.wrap (a * b)))
def bI_quo (k : IntKind) (a b : Int) : Option AV := if b = 0 then none else some (.int k (k.wrap (a.tdiv b)))
def bI_rem (k : IntKind) (a b : Int) : Option AV := if b = 0 then none else some (.int k (a.tmod b))
def bI_and (k : IntKind) (a b : Int) : Option AV := some (.int k (k.wrap (BitVec.ofInt k.bits a &&& BitVec.ofInt k.bits b).toNat))
def bI_or (k : IntKind) (a b : Int) : Option AV := some (.int k (k.wrap (BitVec.ofInt k.bits a ||| BitVec.ofInt k.bits b).toNat))
def bI_xor (k : IntKind) (a b : Int) : Option AV := some (.int k (k.wrap (BitVec.ofInt k.bits a ^^^ BitVec.ofInt k.bits b).toNat))
def zsl (k : IntKind) (a b : Int) : Option AV := some (.int k (k.wrap (BitVec.ofInt k.bits a &&& ~~~ BitVec.ofInt k.bits b).toNat))
def bI_shl (_k : IntKind) (_a _b : Int) : Option AV := none
def bI_shr (_k : IntKind) (_a _b : Int) : Option AV := none
def bI_eql (_k : IntKind) (a b : Int) : Option AV := some (.bool (a == b))
def bI_neq (_k : IntKind) (a b : Int) : Option AV := some (.bool (a != b))
def bI_lss (_k : IntKind) (a b : Int) : Option AV := some (.bool (decide (a < b)))
def bI_leq (_k : IntKind) (a b : Int) : Option AV := some (.bool (decide (a ≤ b)))
def bI_gtr (_k : IntKind) (a b : Int) : Option AV := some (.bool (decide (a > b)))
def bI_geq (_k : IntKind) (a b : Int) : Option AV := some (.bool (decide (a ≥ b)))
def zso : BinOp → IntKind → Int → Int → Option AV := fun op => match op with
 | .add => bI_add
 | .sub => bI_sub
 | .mul => bI_mul
 | .quo => bI_quo
 | .rem => bI_rem
 | .and => bI_and
 | .or => bI_or
 | .xor => bI_xor
 | .andNot => zsl
 | .shl => bI_shl
 | .shr => bI_shr
 | .eql => bI_eql
 | .neq => bI_neq
 | .lss => bI_lss
 | .leq => bI_leq
 | .gtr => bI_gtr
 | .geq => bI_geq
theorem zr0 (op : BinOp) (k : IntKind) (a b : Int) : zso op k a b = zc0 op k a b := by cases op <;> rfl
def zun : BinOp → Bool := fun op => match op with
 | .shl => true
 | .shr => true
 | _ => false
def binII (op : BinOp) (k : IntKind) (a : Int) (k' : IntKind) (b : Int) : Option AV :=
 cond (zun op) (zg3 op k a b) (if k = k' then zso op k a b else none)
def binA2 (op : BinOp) (k : IntKind) (a : Int) : AV → Option AV := fun y => match y with
 | .int k' b => binII op k a k' b
 | y => zjh op (.int k a) y
def binA3 (op : BinOp) (a : List UInt8) : AV → Option AV := fun y => match y with
 | .str b => zi0 op a b
 | y => zjh op (.str a) y
def binOpF (op : BinOp) (x : AV) : AV → Option AV := match x with
 | .int k a => binA2 op k a
 | .str a => binA3 op a
 | x => zjh op x
theorem binII_eq (op : BinOp) (k : IntKind) (a : Int) (k' : IntKind) (b : Int) : binII op k a k' b = binOp op (.int k a) (.int k' b) := by
 cases op <;> simp only [binII, zun, binOp, cond_true, cond_false, zr0]
theorem zsp (op : BinOp) (x y : AV) : binOpF op x y = binOp op x y := by
 cases x <;> cases y <;> first
  | rfl
  | exact binII_eq ..
  | (unfold binOp; rfl)
noncomputable def getL (ih : TM → Option AV) (t : TM) : Option AV := TM.rec (motive := fun _ => Option AV) none (fun _ l _ _ _ => ih l) t
noncomputable def getR (ih : TM → Option AV) (t : TM) : Option AV := TM.rec (motive := fun _ => Option AV) none (fun _ _ r _ _ => ih r) t
noncomputable def getV (t : TM) : Option AV := TM.rec (motive := fun _ => Option AV) none (fun v _ _ _ _ => v) t
noncomputable def zu2 (p : List Bool) : TM → Option AV := List.rec (motive := fun _ => TM → Option AV) getV (fun b _ ih => Bool.rec (motive := fun _ => TM → Option AV) (getL ih) (getR ih) b) p
theorem getPK_eq (p : List Bool) : zu2 p = TM.getP p := by
 induction p with
 | nil => funext t; cases t <;> rfl
 | cons b p ih =>
  show Bool.rec (motive := fun _ => TM → Option AV) (getL (zu2 p)) (getR (zu2 p)) b = zu3 b (TM.getP p)
  rw [ih]
  funext t
  cases b <;> cases t <;> rfl
noncomputable def argT (n : Nat) (S : AS) : Option AV := zu2 (zf2 n) S.tmps
def argC (v : AV) (_ : AS) : Option AV := some v
noncomputable def argD (a : Arg) : AS → Option AV := Arg.rec (motive := fun _ => AS → Option AV) argT argC a
noncomputable def zch (S : AS) (a : Arg) : Option AV := argD a S
theorem zan (S : AS) (a : Arg) : zch S a = S.arg a := by
 cases a with
 | c => rfl
 | t n => show zu2 (zf2 n) S.tmps = TM.getP (zf2 n) S.tmps; rw [getPK_eq]
def consO (o1 : Option AV) (o2 : Option (List AV)) : Option (List AV) := match o1 with
 | some v => match o2 with
  | some vs => some (v :: vs)
  | none => none
 | none => none
noncomputable def zm0 (S : AS) (l : List Arg) : Option (List AV) := List.rec (motive := fun _ => Option (List AV)) (some []) (fun a _ ih => consO (zch S a) ih) l
theorem zg1 (S : AS) (l : List Arg) : zm0 S l = S.args l := by
 induction l with
 | nil => rfl
 | cons a l ih => show consO (zch S a) (zm0 S l) = _; rw [ih, zan, AS.args]; cases S.arg a <;> cases S.args l <;> rfl
noncomputable def zl9 (S : AS) (o : Option Arg) : Option (Option AV) := match o with
 | none => some none
 | some a => (zch S a).map some
theorem zla (S : AS) (o : Option Arg) : zl9 S o = S.oarg o := by
 cases o with
 | none => rfl
 | some a => simp only [zl9, zan, AS.oarg]
def consP (off size : Nat) (o1 : Option AV) (o2 : Option (List (Nat × AV))) : Option (List (Nat × AV)) := match o1 with
 | some v => match o2 with
  | some r => match v.cells? with
   | some vs => if vs.length = size then some ((off, v) :: r) else none
   | none => none
  | none => none
 | none => none
noncomputable def zq1 (S : AS) (l : List (Nat × Nat × Arg)) : Option (List (Nat × AV)) := List.rec (motive := fun _ => Option (List (Nat × AV))) (some []) (fun x _ ih => consP x.1 x.2.1 (zch S x.2.2) ih) l
theorem zmv (S : AS) (l : List (Nat × Nat × Arg)) : zq1 S l = S.parts l := by
 induction l with
 | nil => rfl
 | cons x l ih => obtain ⟨a, b, c⟩ := x; show consP a b (zch S c) (zq1 S l) = _; rw [ih, zan, AS.parts]; cases S.arg c <;> cases S.parts l <;> rfl
noncomputable def i_mov (a : Arg) (S : AS) : Option (AV × AS) := (zch S a).map (·, S)
noncomputable def zue (c : Arg) (a : Arg) (b : Arg) (S : AS) : Option (AV × AS) := match zch S c with
  | some (.bool t) => (if t then zch S a else zch S b).map (·, S)
  | _ => none
noncomputable def znx (z : List AV) (S : AS) : Option (AV × AS) := some (.mptr S.next S.clk 0, S.new (.cells z))
noncomputable def i_box (a : Arg) (S : AS) : Option (AV × AS) := match zch S a with
  | some v => match v.cells? with
   | some cs => some (.mptr S.next S.clk 0, S.new (.cells cs))
   | none => none
  | none => none
noncomputable def zny (z : List AV) (ps : List (Nat × Nat × Arg)) (S : AS) : Option (AV × AS) := match zq1 S ps with
  | some l => match zbr z l with
   | some cs => some (.agg cs, S)
   | none => none
  | none => none
noncomputable def zks (sz : Nat) (len : Nat) (z : List AV) (ps : List (Nat × Nat × Arg)) (S : AS) : Option (AV × AS) := match zq1 S ps with
  | some l => match zbr z l with
   | some cs => some (.ms S.next S.clk sz 0 len (some len), S.new (.cells cs))
   | none => none
  | none => none
noncomputable def zua (agg : Option Nat) (a : Arg) (S : AS) : Option (AV × AS) := match zch S a with
  | some p => match S.deref p with
   | some cs => match agg with
    | some n => if n ≤ cs.length then some (.agg (cs.take n), S) else none
    | none => match cs with
     | x :: _ => some (x, S)
     | [] => none
   | none => none
  | none => none
noncomputable def zo6 (size : Nat) (a : Arg) (v : Arg) (S : AS) : Option (AV × AS) := match zch S a, zch S v with
  | some p, some v => match v.cells? with
   | some vs => if vs.length = size then (S.store p vs).map (.tup [], ·) else none
   | none => none
  | _, _ => none
noncomputable def zkz (a : Arg) (S : AS) : Option (AV × AS) := match zch S a with
  | some (.vptr cs) => some (.vptr cs, S)
  | some (.mptr id st off) => some (.mptr id st off, S)
  | some (.fn f a b) => some (.fn f a b, S)
  | _ => none
noncomputable def i_bin (op : BinOp) (x : Arg) (y : Arg) (S : AS) : Option (AV × AS) := match zch S x, zch S y with
  | some a, some b => (binOpF op a b).map (·, S)
  | _, _ => none
noncomputable def i_eqb (neg : Bool) (x : Arg) (y : Arg) (S : AS) : Option (AV × AS) := match zch S x, zch S y with
  | some (.bool a), some (.bool b) => some (.bool (if neg then !(a == b) else a == b), S)
  | _, _ => none
noncomputable def i_eqs (neg : Bool) (fs : List (Nat × EqK)) (x : Arg) (y : Arg) (S : AS) : Option (AV × AS) := match zch S x, zch S y with
  | some (.agg a), some (.agg b) => match ztn a b fs with
   | some r => some (.bool (if neg then !r else r), S)
   | none => none
  | _, _ => none
noncomputable def i_un (op : UnOp) (a : Arg) (S : AS) : Option (AV × AS) := match zch S a with
  | some v => (unOp op v).map (·, S)
  | none => none
noncomputable def zu6 (k : IntKind) (a : Arg) (S : AS) : Option (AV × AS) := match zch S a with
  | some v => (zt6 k v).map (·, S)
  | none => none
noncomputable def zub (f : FuncId) (first : List Arg) (cap : List Arg) (S : AS) : Option (AV × AS) := match zm0 S first, zm0 S cap with
  | some a, some b => some (.fn f a b, S)
  | _, _ => none
noncomputable def zis (sz : Nat) (bytes : Nat) (z : List AV) (l : Arg) (c : Arg) (S : AS) : Option (AV × AS) := match zch S l, zch S c with
  | some (.int _ l), some (.int _ c) =>
   if 0 ≤ l ∧ l ≤ c ∧ c ≤ 1048576 ∧ bytes ≤ 16777216 then some (.ms S.next S.clk sz 0 l.toNat (some c.toNat), S.new (.cells (zed c.toNat z))) else none
  | _, _ => none
noncomputable def zuf (sz : Nat) (x : Arg) (lo : Option Arg) (hi : Option Arg) (mx : Option Arg) (S : AS) : Option (AV × AS) := match zch S x, zl9 S lo, zl9 S hi, zl9 S mx with
  | some v, some lo, some hi, some mx => (zom sz v lo hi mx).map (·, S)
  | _, _, _, _ => none
noncomputable def zo4 (n : Nat) (sz : Nat) (x : Arg) (lo : Option Arg) (hi : Option Arg) (S : AS) : Option (AV × AS) := match zch S x, zl9 S lo, zl9 S hi with
  | some (.mptr id st off), some lo, some hi => match zcb lo 0, zcb hi n with
   | some l, some h => if 0 ≤ l ∧ l ≤ h ∧ h ≤ n then some (.ms id st sz (off + l.toNat * sz) (h.toNat - l.toNat) (some (n - l.toNat)), S) else none
   | _, _ => none
  | _, _, _ => none
noncomputable def zo5 (x : Arg) (lo : Option Arg) (hi : Option Arg) (S : AS) : Option (AV × AS) := match zch S x, zl9 S lo, zl9 S hi with
  | some (.str s), some lo, some hi => match zcb lo 0, zcb hi s.length with
   | some l, some h => if 0 ≤ l ∧ l ≤ h ∧ h ≤ s.length then some (.str ((s.drop l.toNat).take (h.toNat - l.toNat)), S) else none
   | _, _ => none
  | _, _, _ => none
noncomputable def zo0 (off : Nat) (x : Arg) (S : AS) : Option (AV × AS) := match zch S x with
  | some (.vptr cs) => if off ≤ cs.length then some (.vptr (cs.drop off), S) else none
  | some (.mptr id st o) => some (.mptr id st (o + off), S)
  | _ => none
noncomputable def zo1 (off : Nat) (agg : Option Nat) (x : Arg) (S : AS) : Option (AV × AS) := match zch S x with
  | some (.agg cs) => match agg with
   | some n => if off + n ≤ cs.length then some (.agg ((cs.drop off).take n), S) else none
   | none => (cs[off]?).map (·, S)
  | _ => none
noncomputable def zu8 (sz : Nat) (x : Arg) (i : Arg) (S : AS) : Option (AV × AS) := match zch S x, zch S i with
  | some (.vs es), some (.int _ n) => if 0 ≤ n ∧ n < es.length then match es[n.toNat]? with
    | some e => if e.length = sz then some (.vptr e, S) else none
    | none => none
   else none
  | some (.ms id st sz' off len _), some (.int _ n) => if sz' = sz ∧ 0 ≤ n ∧ n < len then some (.mptr id st (off + n.toNat * sz), S) else none
  | _, _ => none
noncomputable def zku (n : Nat) (sz : Nat) (x : Arg) (i : Arg) (S : AS) : Option (AV × AS) := match zch S x, zch S i with
  | some (.vptr cs), some (.int _ k) => if 0 ≤ k ∧ k < n ∧ k.toNat * sz ≤ cs.length then some (.vptr (cs.drop (k.toNat * sz)), S) else none
  | some (.mptr id st off), some (.int _ k) => if 0 ≤ k ∧ k < n then some (.mptr id st (off + k.toNat * sz), S) else none
  | _, _ => none
noncomputable def zkt (n : Nat) (sz : Nat) (agg : Bool) (x : Arg) (i : Arg) (S : AS) : Option (AV × AS) := match zch S x, zch S i with
  | some (.agg cs), some (.int _ k) =>
   if 0 ≤ k ∧ k < n ∧ k.toNat * sz + sz ≤ cs.length then
    (if agg then some (.agg ((cs.drop (k.toNat * sz)).take sz), S) else (cs[k.toNat * sz]?).map (·, S))
   else none
  | _, _ => none
noncomputable def zkv (x : Arg) (i : Arg) (S : AS) : Option (AV × AS) := match zch S x, zch S i with
  | some (.str s), some (.int _ k) => if 0 ≤ k then match s[k.toNat]? with
    | some b => some (.int .u8 b.toNat, S)
    | none => none
   else none
  | _, _ => none
noncomputable def zir (x : Arg) (i : Nat) (S : AS) : Option (AV × AS) := match zch S x with
  | some (.tup vs) => (vs[i]?).map (·, S)
  | _ => none
noncomputable def i_len (b : Bool) (a : Arg) (S : AS) : Option (AV × AS) := match zch S a with
  | some v => (lenA b v).map (·, S)
  | none => none
noncomputable def zu9 (n : Nat) (S : AS) : Option (AV × AS) := some (.int .i64 n, S)
noncomputable def zkr (sz : Nat) (bytes : Nat) (_x2 : List AV) (s : Arg) (x : Arg) (S : AS) : Option (AV × AS) := match zch S s, zch S x with
  | some sv, some xv => match S.elems sz xv with
   | some es => zbg S sz bytes sv es
   | none => none
  | _, _ => none
noncomputable def ziq (sz : Nat) (bytes : Nat) (z : List AV) (s : Arg) (n : Arg) (S : AS) : Option (AV × AS) := match zch S s, zch S n with
  | some sv, some (.int _ n) => zei S sz bytes z sv n
  | _, _ => none
noncomputable def zu5 (a : Arg) (S : AS) : Option (AV × AS) := match zch S a with
  | some v => match capOf v with
   | some n => some (.int .i64 (n : Int), S)
   | none => none
  | none => none
noncomputable def zuc (neg : Bool) (a : Arg) (S : AS) : Option (AV × AS) := match zch S a with
  | some (.vs (_ :: _)) => some (.bool neg, S)
  | some (.ms _ _ _ _ (_ + 1) _) => some (.bool neg, S)
  | _ => none
noncomputable def zo2  (S : AS) : Option (AV × AS) := some (.mapv S.next S.clk, S.new (.map []))
noncomputable def zkx (kd : EqK) (m : Arg) (k : Arg) (v : Arg) (S : AS) : Option (AV × AS) := match zch S m, zch S k, zch S v with
  | some m, some k, some v => (S.mapset kd m k v).map (.tup [], ·)
  | _, _, _ => none
noncomputable def zkw (kd : EqK) (z : AV) (ok : Bool) (m : Arg) (k : Arg) (S : AS) : Option (AV × AS) := match zch S m, zch S k with
  | some m, some k => (S.mapget kd z ok m k).map (·, S)
  | _, _ => none
noncomputable def zu7 (sz : Nat) (d : Arg) (s : Arg) (S : AS) : Option (AV × AS) := match zch S d, zch S s with
  | some (.ms id st sz' off len _), some sv => match S.elems sz sv, look id S.heap with
   | some es, some (st', .cells cs) =>
    let new := (es.take len).flatten
    if st' = st ∧ sz' = sz ∧ off + len * sz ≤ cs.length ∧ new.all AV.isCell = true then
     some (.int .i64 (min es.length len : Nat), { S with heap := zbu id (st, .cells (setAt off cs new)) S.heap })
    else none
   | _, _ => none
  | _, _ => none
noncomputable def znz (sz : Nat) (z : List AV) (x : Arg) (S : AS) : Option (AV × AS) := match zch S x with
  | some (.ms id st sz' off len _) => match look id S.heap with
   | some (st', .cells cs) =>
    if st' = st ∧ sz' = sz ∧ off + len * sz ≤ cs.length ∧ z.length = sz ∧ 0 < sz ∧ z.all AV.isCell = true then
     some (.tup [], { S with heap := zbu id (st, .cells (setAt off cs (zed len z))) S.heap })
    else none
   | _ => none
  | _ => none
noncomputable def zky (mx : Bool) (args : List Arg) (S : AS) : Option (AV × AS) := match zm0 S args with
  | some (.int k a :: l) => (l.foldlM (m := Option) (init := a) fun acc v => match v with
    | .int k' b => if k = k' then some (if mx then (if b > acc then b else acc) else (if b < acc then b else acc)) else none
    | _ => none).map fun n => (.int k n, S)
  | _ => none
noncomputable def zu4 (T : TypeId) (a : Arg) (S : AS) : Option (AV × AS) := match zch S a with
  | some v => match v.cells? with
   | some cs => some (.mptr S.next S.clk 0, S.new (.typed T true cs))
   | none => none
  | none => none
noncomputable def i_peq (neg : Bool) (x : Arg) (y : Arg) (S : AS) : Option (AV × AS) := match zch S x, zch S y with
  | some a, some b => match S.peq a b with
   | some r => some (.bool (if neg then !r else r), S)
   | none => none
  | _, _ => none
noncomputable def zug (ok : List (TypeId × Nat)) (a : Arg) (S : AS) : Option (AV × AS) := match zch S a with
  | some (.mptr id st 0) => match look id S.heap with
   | some (st', .typed T true cs) => if st' = st ∧ ok.elem (T, cs.length) = true then some (.mptr id st 0, S) else none
   | _ => none
  | _ => none
noncomputable def zo3 (a : Arg) (S : AS) : Option (AV × AS) := match zch S a with
  | some (.ms id st 1 0 (_ + 1) _) => some (.mptr id st 0, S)
  | _ => none
noncomputable def zuh (e : TypeId) (a : Arg) (n : Arg) (S : AS) : Option (AV × AS) := match zch S a, zch S n with
  | some (.mptr id st 0), some (.int .i64 n) => match look id S.heap with
   | some (st', .typed T _ cs) =>
    if st' = st ∧ T = e ∧ 0 < n ∧ n ≤ cs.length ∧ n ≤ 1048576 then match zgq (cs.take n.toNat) with
     | some bs => some (.str bs, { S with heap := ze7 id S.heap })
     | none => none
    else none
   | _ => none
  | _, _ => none
noncomputable def zio (e : TypeId) (bytes : Nat) (s : Arg) (x : Arg) (S : AS) : Option (AV × AS) := match zch S s, zch S x with
  | some sv, some xv => match S.bytesIn xv with
   | some es => appendT S e bytes sv es
   | none => none
  | _, _ => none
def zud : AS → Option (AV × AS) := fun _ => none
noncomputable def zdu : IOp → AS → Option (AV × AS) := fun op => match op with
 | .mov a => i_mov a
 | .pick a b c => zue a b c
 | .alloc a => znx a
 | .box a => i_box a
 | .build a b => zny a b
 | .bslice a b c d => zks a b c d
 | .load a b => zua a b
 | .store a b c => zo6 a b c
 | .nilchk a => zkz a
 | .bin a b c => i_bin a b c
 | .eqb a b c => i_eqb a b c
 | .eqs a b c d => i_eqs a b c d
 | .un a b => i_un a b
 | .conv a b => zu6 a b
 | .mkfn a b c => zub a b c
 | .mkslice a b c d e => zis a b c d e
 | .slsl a b c d e => zuf a b c d e
 | .slarr a b c d e => zo4 a b c d e
 | .slstr a b c => zo5 a b c
 | .faddr a b => zo0 a b
 | .field a b c => zo1 a b c
 | .idxs a b c => zu8 a b c
 | .idxarr a b c d => zku a b c d
 | .idxagg a b c d e => zkt a b c d e
 | .idxstr a b => zkv a b
 | .extract a b => zir a b
 | .len a b => i_len a b
 | .lenc a => zu9 a
 | .append a b c d e => zkr a b c d e
 | .appendz a b c d e => ziq a b c d e
 | .capo a => zu5 a
 | .nilq a b => zuc a b
 | .mkmap => zo2
 | .mapset a b c d => zkx a b c d
 | .mapget a b c d e => zkw a b c d e
 | .copy a b c => zu7 a b c
 | .clear a b c => znz a b c
 | .minmax a b => zky a b
 | .boxT a b => zu4 a b
 | .peq a b c => i_peq a b c
 | .uptr a b => zug a b
 | .sdata a => zo3 a
 | .ustr a b c => zuh a b c
 | .appendT a b c d => zio a b c d
 | .call _ _ => zud
 | .bad => zud
noncomputable def zdv (S : AS) (op : IOp) : Option (AV × AS) := zdu op S
theorem zuk (S : AS) (op : IOp) : zdv S op = iop S op := by
 cases op
 case mov a => simp only [zdv, zdu, i_mov, zan]; rfl
 case pick a b c => simp only [zdv, zdu, zue, zan]; rfl
 case alloc a => simp only [zdv, zdu, znx]; rfl
 case box a => simp only [zdv, zdu, i_box, zan]; rfl
 case build a b => simp only [zdv, zdu, zny, zmv]; rfl
 case bslice a b c d => simp only [zdv, zdu, zks, zmv]; rfl
 case load a b => simp only [zdv, zdu, zua, zan]; rfl
 case store a b c => simp only [zdv, zdu, zo6, zan]; rfl
 case nilchk a => simp only [zdv, zdu, zkz, zan]; rfl
 case bin op x y => simp only [zdv, zdu, i_bin, iop, zsp, zan]; cases S.arg x <;> cases S.arg y <;> rfl
 case eqb a b c => simp only [zdv, zdu, i_eqb, zan]; rfl
 case eqs a b c d => simp only [zdv, zdu, i_eqs, zan]; rfl
 case un a b => simp only [zdv, zdu, i_un, zan]; rfl
 case conv a b => simp only [zdv, zdu, zu6, zan]; rfl
 case mkfn a b c => simp only [zdv, zdu, zub, zg1]; rfl
 case mkslice a b c d e => simp only [zdv, zdu, zis, zan]; rfl
 case slsl a b c d e => simp only [zdv, zdu, zuf, zan, zla]; rfl
 case slarr a b c d e => simp only [zdv, zdu, zo4, zan, zla]; rfl
 case slstr a b c => simp only [zdv, zdu, zo5, zan, zla]; rfl
 case faddr a b => simp only [zdv, zdu, zo0, zan]; rfl
 case field a b c => simp only [zdv, zdu, zo1, zan]; rfl
 case idxs a b c => simp only [zdv, zdu, zu8, zan]; rfl
 case idxarr a b c d => simp only [zdv, zdu, zku, zan]; rfl
 case idxagg a b c d e => simp only [zdv, zdu, zkt, zan]; rfl
 case idxstr a b => simp only [zdv, zdu, zkv, zan]; rfl
 case extract a b => simp only [zdv, zdu, zir, zan]; rfl
 case len a b => simp only [zdv, zdu, i_len, zan]; rfl
 case lenc a => simp only [zdv, zdu, zu9]; rfl
 case append a b c d e => simp only [zdv, zdu, zkr, zan]; rfl
 case appendz a b c d e => simp only [zdv, zdu, ziq, zan]; rfl
 case capo a => simp only [zdv, zdu, zu5, zan]; rfl
 case nilq a b => simp only [zdv, zdu, zuc, zan]; rfl
 case mkmap  => simp only [zdv, zdu, zo2]; rfl
 case mapset a b c d => simp only [zdv, zdu, zkx, zan]; rfl
 case mapget a b c d e => simp only [zdv, zdu, zkw, zan]; rfl
 case copy a b c => simp only [zdv, zdu, zu7, zan]; rfl
 case clear a b c => simp only [zdv, zdu, znz, zan]; rfl
 case minmax a b => simp only [zdv, zdu, zky, zg1]; rfl
 case boxT a b => simp only [zdv, zdu, zu4, zan]; rfl
 case peq a b c => simp only [zdv, zdu, i_peq, zan]; rfl
 case uptr a b => simp only [zdv, zdu, zug, zan]; rfl
 case sdata a => simp only [zdv, zdu, zo3, zan]; rfl
 case ustr a b c => simp only [zdv, zdu, zuh, zan]; rfl
 case appendT a b c d => simp only [zdv, zdu, zio, zan]; rfl
 all_goals rfl
mutual
def AV.beq : AV → AV → Bool
 | .top, .top => true
 | .bool a, .bool b => a == b
 | .int k n, .int k' n' => decide (k = k') && decide (n = n')
 | .str s, .str t => decide (s = t)
 | .nilp, .nilp => true
 | .vptr a, .vptr b => zna a b
 | .mptr a b c, .mptr a' b' c' => a == a' && b == b' && c == c'
 | .nils, .nils => true
 | .vs a, .vs b => zqy a b
 | .ms a b c d e f, .ms a' b' c' d' e' f' => a == a' && b == b' && c == c' && d == d' && e == e' && decide (f = f')
 | .fn f a b, .fn f' a' b' => decide (f = f') && zna a a' && zna b b'
 | .yield a b, .yield a' b' => a == a' && b == b'
 | .nilf, .nilf => true
 | .agg a, .agg b => zna a b
 | .tup a, .tup b => zna a b
 | .mapv a b, .mapv a' b' => a == a' && b == b'
 | .rng k a b, .rng k' a' b' => decide (k = k') && decide (a = a') && decide (b = b')
 | .ints k l, .ints k' l' => decide (k = k') && decide (l = l')
 | .strA n a b, .strA n' a' b' => decide (n = n') && a == a' && b == b'
 | _, _ => false
def zna : List AV → List AV → Bool
 | [], [] => true
 | a :: l, b :: m => AV.beq a b && zna l m
 | _, _ => false
def zqy : List (List AV) → List (List AV) → Bool
 | [], [] => true
 | a :: l, b :: m => zna a b && zqy l m
 | _, _ => false
end
mutual
theorem AV.eq_of_beq : ∀ (a b : AV), AV.beq a b = true → a = b := fun a b h => by
 cases a <;> cases b <;> simp only [AV.beq, y0g, beq_iff_eq, decide_eq_true_eq, y0u] at h
 all_goals first
  | rfl
  | (subst h; rfl)
  | (obtain ⟨rfl, rfl⟩ := h; rfl)
  | (obtain ⟨⟨rfl, rfl⟩, rfl⟩ := h; rfl)
  | (obtain ⟨⟨⟨⟨⟨rfl, rfl⟩, rfl⟩, rfl⟩, rfl⟩, rfl⟩ := h; rfl)
  | skip
 case vptr a b => rw [zc3 a b h]
 case vs a b => rw [zic a b h]
 case fn f a b f' a' b' => obtain ⟨⟨rfl, h1⟩, h2⟩ := h; rw [zc3 _ _ h1, zc3 _ _ h2]
 case agg a b => rw [zc3 a b h]
 case tup a b => rw [zc3 a b h]
theorem zc3 : ∀ (a b : List AV), zna a b = true → a = b
 | [], [], _ => rfl
 | a :: l, b :: m, h => by
  simp only [zna, y0g] at h
  rw [AV.eq_of_beq a b h.1, zc3 l m h.2]
 | [], _ :: _, h => by simp [zna] at h
 | _ :: _, [], h => by simp [zna] at h
theorem zic : ∀ (a b : List (List AV)), zqy a b = true → a = b
 | [], [], _ => rfl
 | a :: l, b :: m, h => by
  simp only [zqy, y0g] at h
  rw [zc3 a b h.1, zic l m h.2]
 | [], _ :: _, h => by simp [zqy] at h
 | _ :: _, [], h => by simp [zqy] at h
end
def zbv : IOp → Bool
 | .alloc _ | .box _ | .bslice .. | .store .. | .mkslice .. | .append .. | .appendz .. | .copy .. | .clear .. | .mkmap | .mapset .. | .boxT .. | .peq .. | .uptr .. | .ustr .. | .appendT .. | .call .. => true
 | _ => false
theorem zgb {S S1 : AS} {op : IOp} {v : AV} (hl : zbv op = false) (h : iop S op = some (v, S1)) : S1 = S := by
 cases op <;> simp only [zbv, Bool.true_eq_false] at hl <;> simp only [iop] at h
 all_goals (repeat' (split at h)) <;> simp only [y01, y00, y05, reduceCtorEq] at h
 all_goals first
   | (obtain ⟨_, rfl⟩ := h; rfl)
   | (obtain ⟨_, _, _, rfl⟩ := h; rfl)
structure FnI where
 size : Nat
 ic : IC
 res : List RA
structure Env where
 fn : FuncId → Option FnI
 orc : FuncId → List AV → Option AV
 sum : FuncId → List AV → HS → Option (AV × HS)
 pure : FuncId → Bool
 known : FuncId → Bool
 fuel : Nat
structure Rec where
 f : FuncId → List AV → HS → Option (AV × HS)
 c : Option (Nat × Nat) → IC → AS → Option (Exit × AS)
def zfn (P : Program) (R : Rec) : Prop :=
 (∀ f args H v H', R.f f args H = some (v, H') → ∀ w0 N0, FT P w0 N0 f args H fun v1 H1 => v1 = v ∧ H1 = H') ∧
 (∀ rd ic S e S', R.c rd ic S = some (e, S') → ∀ w0 N0, T P w0 N0 rd ic S fun e1 S1 => e1 = e ∧ S1 = S')
structure EnvOk (P : Program) (E : Env) : Prop where
 fn : ∀ f i, E.fn f = some i → ∃ fn code, P.funcs[f]? = some fn ∧ fn.body = some code ∧ zg7 P code = some i.ic ∧ fn.ntmps = i.size ∧ zes P fn.results.toList = some i.res ∧ Ent P f
 orc : ∀ f args v, E.orc f args = some v → PF P f args v
 sum : ∀ f args H v H', E.sum f args H = some (v, H') → ∀ w0 N0, FT P w0 N0 f args H fun v1 H1 => v1 = v ∧ H1 = H'
 mix : P.follows .mixedOrders = true
def zgd (marks : List (Nat × Nat)) (hp : List (Nat × Nat × AObj)) : Bool :=
 marks.all fun m => match look m.1 hp with
  | some (st, .deferred) => st == m.2
  | _ => false
theorem zjs {marks : List (Nat × Nat)} {hp : List (Nat × Nat × AObj)} (h : zgd marks hp = true) : zdh marks hp := by
 intro m hm
 have := y0e.1 h m hm
 split at this
 ·rename_i st hl; rw [hl]; simp at this; rw [this]
 ·cases this
def zdd (E : Env) (R : Rec) (S : AS) (fv : AV) (vs : List AV) : Option AV :=
 match fv with
 | .fn fid first cap => match E.orc fid ((first ++ vs ++ cap).map (S.view VD)) with
  | some v => if hasM.hasML (first ++ vs ++ cap) = false ∨ flat v = true then some v else none
  | none => if E.pure fid = true then
    match R.f fid ((first ++ vs ++ cap).map (S.view VD)) ⟨[], 0, 0⟩ with
    | some (v0, H) => if hasM.hasML (first ++ vs ++ cap) = false ∨ flat ((⟨0, .nil, H.heap, H.next, H.clk, []⟩ : AS).view VD v0) = true then some ((⟨0, .nil, H.heap, H.next, H.clk, []⟩ : AS).view VD v0) else none
    | none => none
   else none
 | _ => none
def zba (E : Env) (R : Rec) (S : AS) (io : Opr) : Option AV :=
 match io.op with
 | .call fa args => match S.arg fa, S.args args with
  | some fv, some vs => zdd E R S fv vs
  | _, _ => none
 | op => if zbv op then none else (iop S op).map (·.1)
def zwm (P : Program) (R : Rec) (id st : Nat) (args : List AV) (H : HS) : Option (AV × HS) :=
 match look id H.heap with
 | some (st', .loop .ready none size tmps ps ca cb _) =>
  if st' = st ∧ ps.length = args.length ∧ ps.all (fun p => decide (p < size)) = true then
   match zg7 P ca, zg7 P cb with
   | some ia, some ib => match R.c (some (id, st)) ia (AS.round size tmps ps args H) with
    | some (.normal, S1) => match look id S1.heap with
     | some (st1, .loop .ready none size1 tmps1 ps1 ca1 cb1 df1) =>
      if st1 = st then match R.c (some (id, st)) ib { S1 with heap := zbu id (st, .loop .busy none size1 tmps1 ps1 ca1 cb1 df1) S1.heap } with
       | some (e, S2) => match look id S2.heap with
        | some (st2, .loop .busy none size2 tmps2 ps2 ca2 cb2 df2) =>
         if st2 = st then match zup e with
          | some j => some (.bool j.isNone, ⟨zbu id (st, .loop (if j.isNone then .ready else .done) j size2 tmps2 ps2 ca2 cb2 df2) S2.heap, S2.next, S2.clk⟩)
          | none => none
         else none
        | _ => none
       | none => none
      else none
     | _ => none
    | _ => none
   | _, _ => none
  else none
 | _ => none
def zsv (P : Program) (R : Rec) (fv : AV) (vs : List AV) (H : HS) : Option (AV × HS) :=
 match fv with
 | .fn fid first cap => R.f fid (first ++ vs ++ cap) H
 | .yield id st => zwm P R id st vs H
 | _ => none
def zfr (P : Program) (R : Rec) (S : AS) (io : Opr) : Option (AV × HS) :=
 match io.op with
 | .call fa args => match S.arg fa, S.args args with
  | some fv, some vs => match zsv P R fv vs S.hs with
   | some (v, H) => if zgd S.marks H.heap then some (v, H) else none
   | none => none
  | _, _ => none
 | op => match iop S op with
  | some (v, S1) => some (v, S1.hs)
  | none => none
section
variable {P : Program} {w0 w : World} {N0 : Nat} {S S' S1 : AS} {rd : Option (Nat × Nat)} {Q : Exit → AS → Prop} {E : Env} {R : Rec} {io : Opr} {v : AV} {H : HS}
theorem zve (hE : EnvOk P E) (hR : zfn P R) {fid : FuncId} {first cap vs : List AV} (h : zdd E R S (.fn fid first cap) vs = some v) :
  PF P fid ((first ++ vs ++ cap).map (S.view VD)) v ∧ (hasM.hasML (first ++ vs ++ cap) = false ∨ flat v = true) := by
 simp only [zdd] at h
 split at h
 ·rename_i v' hv
  split at h
  ·rename_i hc
   simp only [y00] at h; subst h
   exact ⟨hE.orc _ _ _ hv, hc⟩
  ·cases h
 ·split at h <;> try cases h
  split at h <;> try cases h
  rename_i v0 H0 hr
  split at h <;> try cases h
  rename_i hc
  exact ⟨zor fun w0 N0 => (hR.1 _ _ _ _ _ hr w0 N0).mono fun v1 H1 ⟨e1, e2⟩ => by subst e1 e2; rfl, hc⟩
theorem zde (hE : EnvOk P E) (hR : zfn P R) (h : zba E R S io = some v) : Stp P w0 N0 rd io S fun S2 v2 => v2 = v ∧ S2 = S := by
 unfold zba at h
 split at h
 ·rename_i fa args hop
  split at h
  ·rename_i fv vs hf ha
   cases fv with
   | fn fid first cap =>
    obtain ⟨h1, hc⟩ := zve hE hR h
    exact (Stp_pure hop hf ha h1 (fun hm => hc.resolve_left (by rw [hm]; simp))).mono fun S v ⟨e1, e2⟩ => ⟨e2, e1⟩
   | _ => simp [zdd] at h
  ·cases h
 ·split at h
  ·cases h
  ·rename_i hl
   simp only [y01, Prod.exists, exists_and_right, exists_eq_right] at h
   obtain ⟨S1, h1⟩ := h
   obtain rfl := zgb (by simpa using hl) h1
   exact (zlt h1).mono fun S v ⟨e1, e2⟩ => ⟨e2, e1⟩
theorem zwn (hR : zfn P R) {id st : Nat} {args : List AV} {H' : HS} (h : zwm P R id st args H = some (v, H')) : CT P w0 N0 (.yield id st) args H fun v1 H1 => v1 = v ∧ H1 = H' := by
 unfold zwm at h
 split at h <;> try cases h
 rename_i st' size tmps ps ca cb df hl
 split at h <;> try cases h
 rename_i hc
 obtain ⟨rfl, hps, hlt⟩ := hc
 split at h <;> try cases h
 rename_i ia ib hia hib
 split at h <;> try cases h
 rename_i S1 hc1
 split at h <;> try cases h
 rename_i st1 size1 tmps1 ps1 ca1 cb1 df1 hl1
 split at h <;> try cases h
 rename_i e1; subst e1
 split at h <;> try cases h
 rename_i e S2 hc2
 split at h <;> try cases h
 rename_i st2 size2 tmps2 ps2 ca2 cb2 df2 hl2
 split at h <;> try cases h
 rename_i e2; subst e2
 split at h <;> try cases h
 rename_i j hj
 refine CT_yield hl (zpb hia) (zpb hib) hps (fun p hp => by simpa using y0e.1 hlt p hp) (zeq (hR.2 _ _ _ _ _ hc1 w0 N0) fun e3 S3 ⟨k1, k2⟩ => ?_)
 subst k1 k2
 refine ⟨rfl, _, _, _, _, _, _, hl1, zeq (hR.2 _ _ _ _ _ hc2 w0 N0) fun e4 S4 ⟨k1, k2⟩ => ?_⟩
 subst k1 k2
 exact ⟨_, _, _, _, _, _, hl2, j, hj, rfl, rfl⟩
theorem callV_ok (hR : zfn P R) {fv : AV} {vs : List AV} {H' : HS} (h : zsv P R fv vs H = some (v, H')) : CT P w0 N0 fv vs H fun v1 H1 => v1 = v ∧ H1 = H' := by
 unfold zsv at h
 split at h
 ·exact zfz (hR.1 _ _ _ _ _ h w0 N0)
 ·exact zwn hR h
 ·cases h
theorem zpw (hR : zfn P R) {H' : HS} (h : zfr P R S io = some (v, H')) : Stp P w0 N0 rd io S fun S2 v2 => v2 = v ∧ S2 = S.withH H' := by
 unfold zfr at h
 split at h
 ·rename_i fa args hop
  split at h <;> try cases h
  rename_i fv vs hf ha
  split at h <;> try cases h
  rename_i v1 H1 hv
  split at h <;> try cases h
  rename_i hm
  exact (zs6 hop hf ha (callV_ok hR hv) (fun v2 H2 ⟨_, e⟩ => e ▸ zjs hm)).mono fun S2 v2 ⟨H2, ⟨e1, e2⟩, e3⟩ => ⟨e1, by rw [e3, e2]⟩
 ·split at h <;> try cases h
  rename_i v1 S1 h1
  exact (zlt h1).mono fun S2 v2 ⟨e1, e2⟩ => ⟨e2, by rw [e1]; exact zhh h1⟩
end
end Go.Am
namespace Go.Am
open Go Go.RowKit
def zdk (P : Program) (E : Env) (R : Rec) (S : AS) (io : Opr) : Option (AV × HS) :=
 match zba E R S io with
 | some v => some (v, S.hs)
 | none => zfr P R S io
def zrz (P : Program) (E : Env) (R : Rec) : List Opr → AS → Option AS
 | [], S => some S
 | io :: ios, S => match zaj S io with
  | some true => match zdk P E R S io with
   | some (v, H) => if zc1 S.size io.dst then zrz P E R ios ((S.withH H).put io.dst v) else none
   | none => none
  | some false => if zc1 S.size io.dst then zrz P E R ios (S.put io.dst (.tup [])) else none
  | none => none
section
variable {P : Program} {w0 w : World} {N0 : Nat} {S S' S1 : AS} {rd : Option (Nat × Nat)} {Q : Exit → AS → Prop} {E : Env} {R : Rec} {io : Opr} {v : AV} {H : HS}
theorem zll (hE : EnvOk P E) (hR : zfn P R) {H' : HS} (h : zdk P E R S io = some (v, H')) : Stp P w0 N0 rd io S fun S2 v2 => v2 = v ∧ S2 = S.withH H' := by
 unfold zdk at h
 split at h
 ·rename_i v1 hq
  simp only [y00, y05] at h
  obtain ⟨rfl, rfl⟩ := h
  exact zde hE hR hq
 ·exact zpw hR h
theorem zoj (hE : EnvOk P E) (hR : zfn P R) : ∀ {ios : List Opr} {S S' : AS}, zrz P E R ios S = some S' → TO P w0 N0 rd ios S fun S1 => S1 = S'
 | [], S, S', h => by
  simp only [zrz, y00] at h
  exact TO_nil h
 | io :: ios, S, S', h => by
  simp only [zrz] at h
  split at h
  ·rename_i hw
   split at h <;> try cases h
   rename_i v H hst
   split at h <;> try cases h
   rename_i hd
   exact zhv (zll hE hR hst) hw fun S2 v2 ⟨e1, e2⟩ => by subst e1 e2; exact ⟨hd, zoj hE hR h⟩
  ·rename_i hw
   split at h <;> try cases h
   rename_i hd
   exact zs8 hw hd (zoj hE hR h)
  ·cases h
def zrt : List Nat → List Nat → List Nat
 | [], m => m
 | x :: l, m => if (zrt l m).contains x then zrt l m else x :: zrt l m
theorem zix {x : Nat} : ∀ {l m : List Nat}, x ∈ zrt l m → x ∈ l ∨ x ∈ m
 | [], m, h => .inr h
 | y :: l, m, h => by
  simp only [zrt] at h
  split at h
  ·rcases zix h with h | h
   ·exact .inl (y06 _ h)
   ·exact .inr h
  ·rcases y0n.1 h with rfl | h
   ·exact .inl (y08 ..)
   ·rcases zix h with h | h
    ·exact .inl (y06 _ h)
    ·exact .inr h
def zdn (tr : List Tr) : List Nat → List Nat
 | [] => []
 | p :: ps => zrt (p :: (match tr[p]? with | some t => t.anc | none => [])) (zdn tr ps)
theorem ziw {tr : List Tr} {q : Nat} : ∀ {ps : List Nat}, q ∈ zdn tr ps → ∃ p ∈ ps, q = p ∨ ∃ t, tr[p]? = some t ∧ q ∈ t.anc
 | [], h => by simp [zdn] at h
 | p :: ps, h => by
  rcases zix h with h | h
  ·rcases y0n.1 h with rfl | h
   ·exact ⟨_, y08 .., .inl rfl⟩
   ·refine ⟨p, y08 .., .inr ?_⟩
    cases ht : tr[p]? with
    | none => simp [ht] at h
    | some t => exact ⟨t, rfl, by simpa [ht] using h⟩
  ·obtain ⟨p', h1, h2⟩ := ziw h
   exact ⟨p', y06 _ h1, h2⟩
structure DR where
 tr : List Tr
 louds : List Nat
 heaps : List HS
def zkl (P : Program) (E : Env) (R : Rec) (S : AS) (rf : Nat → TM) : List Opr → List (List Nat) → List Tr → List Nat → List HS → HS → Option DR
 | [], [], tr, louds, heaps, H => some ⟨tr, louds, heaps ++ [H]⟩
 | io :: ios, ps :: pres, tr, louds, heaps, H =>
  if ps.all (fun p => decide (p < tr.length)) then
   let anc := zdn tr ps
   let B := S.base (rf tr.length) tr anc H
   match zaj B io with
   | some false => zkl P E R S rf ios pres (tr ++ [⟨io.dst, .tup [], anc⟩]) louds heaps H
   | some true => match zba E R B io with
    | some v => zkl P E R S rf ios pres (tr ++ [⟨io.dst, v, anc⟩]) louds heaps H
    | none => match zfr P R B io with
     | some (v, H') => zkl P E R S rf ios pres (tr ++ [⟨io.dst, v, anc⟩]) (louds ++ [tr.length]) (heaps ++ [H]) H'
     | none => none
   | none => none
  else none
 | _, _, _, _, _, _ => none
theorem zj4 {tr tr' : List Tr} {rest : TM} : ∀ {l : List Nat}, (∀ p ∈ l, p < tr.length) → zev (tr ++ tr') rest l = zev tr rest l
 | [], _ => rfl
 | p :: l, h => by
  have hp : (tr ++ tr')[p]? = tr[p]? := y12 (h p (y08 ..))
  simp only [zev, hp, zj4 fun q hq => h q (y06 _ hq)]
theorem zhz {tr tr' : List Tr} {rest : TM} {l : List Nat} (h : ∀ p ∈ l, p < tr.length) : S.base rest (tr ++ tr') l H = S.base rest tr l H := by
 simp only [AS.base, zj4 h]
structure Inv1 (P : Program) (E : Env) (R : Rec) (S : AS) (rf : Nat → TM) (done : List Opr) (dpres : List (List Nat)) (tr : List Tr) (louds : List Nat) (heaps : List HS) (H : HS) : Prop where
 l1 : tr.length = done.length
 l2 : dpres.length = done.length
 l3 : heaps.length = louds.length
 h0 : (heaps ++ [H])[0]? = some S.hs
 dst : ∀ (i : Nat) (io : Opr) (t : Tr), done[i]? = some io → tr[i]? = some t → t.dst = io.dst
 acyc : ∀ (i : Nat) (ps : List Nat), dpres[i]? = some ps → ∀ p ∈ ps, p < i
 anc : ∀ (i : Nat) (ps : List Nat) (t : Tr), dpres[i]? = some ps → tr[i]? = some t → ∀ q ∈ t.anc, ∃ p ∈ ps, q = p ∨ ∃ t' : Tr, tr[p]? = some t' ∧ q ∈ t'.anc
 alt : ∀ (i : Nat) (t : Tr), tr[i]? = some t → ∀ q ∈ t.anc, q < i
 lob : ∀ l ∈ louds, l < done.length
 loud : ∀ (m l : Nat), louds[m]? = some l → ∃ io t H1 H2, done[l]? = some io ∧ tr[l]? = some t ∧ (heaps ++ [H])[m]? = some H1 ∧ (heaps ++ [H])[m + 1]? = some H2 ∧
  zaj (S.base (rf l) tr t.anc H1) io = some true ∧ zfr P R (S.base (rf l) tr t.anc H1) io = some (t.v, H2)
theorem zdx {α : Type} {l : List α} {x y : α} {i : Nat} (h : (l ++ [x])[i]? = some y) : l[i]? = some y ∨ (i = l.length ∧ y = x) := by
 rcases Nat.lt_trichotomy i l.length with h1 | h1 | h1
 ·left; rwa [y12 h1] at h
 ·right; subst h1; simp at h; exact ⟨rfl, h.symm⟩
 ·rw [y17 (by omega)] at h
  have : i - l.length ≠ 0 := by omega
  rw [List.getElem?_cons] at h; simp [this] at h
theorem zdw {α : Type} {l m : List α} {y : α} {i : Nat} (h : l[i]? = some y) : (l ++ m)[i]? = some y := by
 rw [y12 (y03.1 h).1]; exact h
theorem Inv1.step {rf : Nat → TM} {done : List Opr} {dpres : List (List Nat)} {tr : List Tr} {louds : List Nat} {heaps : List HS} (h : Inv1 P E R S rf done dpres tr louds heaps H) {ps : List Nat}
  (hps : ∀ p ∈ ps, p < tr.length) :
  (∀ q ∈ zdn tr ps, q < tr.length) ∧
  (
   (∀ io v, Inv1 P E R S rf (done ++ [io]) (dpres ++ [ps]) (tr ++ [⟨io.dst, v, zdn tr ps⟩]) louds heaps H) ∧
   (∀ io v H', zaj (S.base (rf tr.length) tr (zdn tr ps) H) io = some true → zfr P R (S.base (rf tr.length) tr (zdn tr ps) H) io = some (v, H') →
    Inv1 P E R S rf (done ++ [io]) (dpres ++ [ps]) (tr ++ [⟨io.dst, v, zdn tr ps⟩]) (louds ++ [tr.length]) (heaps ++ [H]) H')) := by
 have hanc : ∀ q ∈ zdn tr ps, q < tr.length := by
  intro q hq
  obtain ⟨p, hp, h1⟩ := ziw hq
  rcases h1 with rfl | ⟨t, ht, hqt⟩
  ·exact hps _ hp
  ·have := h.alt p t ht q hqt
   have := hps p hp
   omega
 have hdst : ∀ (io : Opr) (v : AV) (i : Nat) (io' : Opr) (t : Tr), (done ++ [io])[i]? = some io' → (tr ++ [⟨io.dst, v, zdn tr ps⟩])[i]? = some t → t.dst = io'.dst := by
  intro io v i io' t h1 h2
  rcases zdx h1 with h1 | ⟨e1, e2⟩ <;> rcases zdx h2 with h2 | ⟨e3, e4⟩
  ·exact h.dst i io' t h1 h2
  ·have := (y03.1 h1).1; rw [← h.l1] at this; omega
  ·have := (y03.1 h2).1; rw [h.l1] at this; omega
  ·subst e2 e4; rfl
 have hacyc : ∀ (i : Nat) (ps' : List Nat), (dpres ++ [ps])[i]? = some ps' → ∀ p ∈ ps', p < i := by
  intro i ps' h1
  rcases zdx h1 with h1 | ⟨e1, e2⟩
  ·exact h.acyc i ps' h1
  ·subst e1 e2; rw [h.l2, ← h.l1]; exact hps
 have hanc2 : ∀ (io : Opr) (v : AV) (i : Nat) (ps' : List Nat) (t : Tr), (dpres ++ [ps])[i]? = some ps' → (tr ++ [(⟨io.dst, v, zdn tr ps⟩ : Tr)])[i]? = some t → ∀ q ∈ t.anc, ∃ p ∈ ps', q = p ∨ ∃ t' : Tr, (tr ++ [(⟨io.dst, v, zdn tr ps⟩ : Tr)])[p]? = some t' ∧ q ∈ t'.anc := by
  intro io v i ps' t h1 h2 q hq
  rcases zdx h1 with h1 | ⟨e1, e2⟩ <;> rcases zdx h2 with h2 | ⟨e3, e4⟩
  ·obtain ⟨p, k1, k2⟩ := h.anc i ps' t h1 h2 q hq
   exact ⟨p, k1, k2.imp id fun ⟨t', k3, k4⟩ => ⟨t', zdw k3, k4⟩⟩
  ·have := (y03.1 h1).1; rw [h.l2, ← h.l1] at this; omega
  ·have := (y03.1 h2).1; rw [h.l1, ← h.l2] at this; omega
  ·subst e2 e4
   obtain ⟨p, k1, k2⟩ := ziw hq
   exact ⟨p, k1, k2.imp id fun ⟨t', k3, k4⟩ => ⟨t', zdw k3, k4⟩⟩
 have halt : ∀ (io : Opr) (v : AV) (i : Nat) (t : Tr), (tr ++ [(⟨io.dst, v, zdn tr ps⟩ : Tr)])[i]? = some t → ∀ q ∈ t.anc, q < i := by
  intro io v i t h2
  rcases zdx h2 with h2 | ⟨e3, e4⟩
  ·exact h.alt i t h2
  ·subst e3 e4; exact hanc
 have hloud : ∀ (io : Opr) (v : AV) (m l : Nat) (hs : List HS) (H' : HS), louds[m]? = some l → (∀ (k : Nat) (y : HS), (heaps ++ [H])[k]? = some y → (hs ++ [H'])[k]? = some y) → ∃ io' t H1 H2, (done ++ [io])[l]? = some io' ∧ (tr ++ [(⟨io.dst, v, zdn tr ps⟩ : Tr)])[l]? = some t ∧ (hs ++ [H'])[m]? = some H1 ∧ (hs ++ [H'])[m + 1]? = some H2 ∧
   zaj (S.base (rf l) (tr ++ [(⟨io.dst, v, zdn tr ps⟩ : Tr)]) t.anc H1) io' = some true ∧ zfr P R (S.base (rf l) (tr ++ [(⟨io.dst, v, zdn tr ps⟩ : Tr)]) t.anc H1) io' = some (t.v, H2) := by
  intro io v m l hs H' hm hk
  obtain ⟨io', t, H1, H2, k1, k2, k3, k4, k5, k6⟩ := h.loud m l hm
  have hb : S.base (rf l) (tr ++ [(⟨io.dst, v, zdn tr ps⟩ : Tr)]) t.anc H1 = S.base (rf l) tr t.anc H1 := zhz fun p hp => by
   have := h.alt l t k2 p hp
   have := (y03.1 k2).1
   omega
  exact ⟨io', t, H1, H2, zdw k1, zdw k2, hk _ _ k3, hk _ _ k4, by rw [hb]; exact k5, by rw [hb]; exact k6⟩
 refine ⟨hanc, fun io v => ⟨by simp [h.l1], by simp [h.l2], h.l3, h.h0, hdst io v, hacyc, hanc2 io v, halt io v, fun l hl => by have := h.lob l hl; simp; omega, fun m l hm => hloud io v m l heaps H hm fun k y hy => hy⟩,
  fun io v H' hw hl => ⟨by simp [h.l1], by simp [h.l2], by simp [h.l3], zdw h.h0, hdst io v, hacyc, hanc2 io v, halt io v, fun l hl => ?_, fun m l hm => ?_⟩⟩
 ·rw [y0p] at hl
  rcases hl with hl | hl
  ·have := h.lob l hl; simp; omega
  ·simp at hl; subst hl; simp [h.l1]
 ·rcases zdx hm with hm | ⟨e1, e2⟩
  ·exact hloud io v m l (heaps ++ [H]) H' hm fun k y hy => zdw hy
  ·subst e1 e2
   have hb : S.base (rf tr.length) (tr ++ [(⟨io.dst, v, zdn tr ps⟩ : Tr)]) (zdn tr ps) H = S.base (rf tr.length) tr (zdn tr ps) H := zhz hanc
   refine ⟨io, ⟨io.dst, v, zdn tr ps⟩, H, H', by simp [h.l1], by simp, ?_, ?_, by rw [hb]; exact hw, by rw [hb]; exact hl⟩
   ·rw [← h.l3]; simp []
   ·rw [← h.l3]; simp []
theorem zhc {rf : Nat → TM} {D : DR} : ∀ {ios : List Opr} {pres : List (List Nat)} {done : List Opr} {dpres : List (List Nat)} {tr : List Tr} {louds : List Nat} {heaps : List HS} {H : HS}, Inv1 P E R S rf done dpres tr louds heaps H →
  zkl P E R S rf ios pres tr louds heaps H = some D → ∃ hs Hn, D.heaps = hs ++ [Hn] ∧ Inv1 P E R S rf (done ++ ios) (dpres ++ pres) D.tr D.louds hs Hn
 | [], [], done, dpres, tr, louds, heaps, H, hI, h => by
  simp only [zkl, y00] at h; subst h
  exact ⟨heaps, H, rfl, by simpa using hI⟩
 | io :: ios, ps :: pres, done, dpres, tr, louds, heaps, H, hI, h => by
  simp only [zkl] at h
  split at h <;> try cases h
  rename_i hps
  obtain ⟨k1, k2, k3⟩ := hI.step (ps := ps) fun p hp => by simpa using y0e.1 hps p hp
  have e1 : done ++ io :: ios = (done ++ [io]) ++ ios := by simp
  have e2 : dpres ++ ps :: pres = (dpres ++ [ps]) ++ pres := by simp
  rw [e1, e2]
  split at h <;> try cases h
  ·exact zhc (k2 io _) h
  ·rename_i hw
   split at h
   ·exact zhc (k2 io _) h
   ·split at h <;> try cases h
    rename_i v H' hl
    exact zhc (k3 io v H' hw hl) h
 | [], _ :: _, _, _, _, _, _, _, _, h => by simp [zkl] at h
 | _ :: _, [], _, _, _, _, _, _, _, h => by simp [zkl] at h
end
end Go.Am
