/-
  AN ABSTRACT MACHINE FOR PROOFS, PART 4. A general base for proofs: no program is named here.
-/
import Derived.Test.YtoiblgbaeglgoaaJA3
namespace Go.Am
open Go Go.RowKit
def bI_add (k : IntKind) (a b : Int) : Option AV := some (.int k (k.wrap (a + b)))
def bI_sub (k : IntKind) (a b : Int) : Option AV := some (.int k (k.wrap (a - b)))
def bI_mul (k : IntKind) (a b : Int) : Option AV := some (.int k (k.wrap (a * b)))
def bI_quo (k : IntKind) (a b : Int) : Option AV := if b = 0 then none else some (.int k (k.wrap (a.tdiv b)))
def bI_rem (k : IntKind) (a b : Int) : Option AV := if b = 0 then none else some (.int k (a.tmod b))
def bI_and (k : IntKind) (a b : Int) : Option AV := some (.int k (k.wrap (BitVec.ofInt k.bits a &&& BitVec.ofInt k.bits b).toNat))
def bI_or (k : IntKind) (a b : Int) : Option AV := some (.int k (k.wrap (BitVec.ofInt k.bits a ||| BitVec.ofInt k.bits b).toNat))
def bI_xor (k : IntKind) (a b : Int) : Option AV := some (.int k (k.wrap (BitVec.ofInt k.bits a ^^^ BitVec.ofInt k.bits b).toNat))
def zx0 (k : IntKind) (a b : Int) : Option AV := some (.int k (k.wrap (BitVec.ofInt k.bits a &&& ~~~ BitVec.ofInt k.bits b).toNat))
def bI_shl (_k : IntKind) (_a _b : Int) : Option AV := none
def bI_shr (_k : IntKind) (_a _b : Int) : Option AV := none
def bI_eql (_k : IntKind) (a b : Int) : Option AV := some (.bool (a == b))
def bI_neq (_k : IntKind) (a b : Int) : Option AV := some (.bool (a != b))
def bI_lss (_k : IntKind) (a b : Int) : Option AV := some (.bool (decide (a < b)))
def bI_leq (_k : IntKind) (a b : Int) : Option AV := some (.bool (decide (a ≤ b)))
def bI_gtr (_k : IntKind) (a b : Int) : Option AV := some (.bool (decide (a > b)))
def bI_geq (_k : IntKind) (a b : Int) : Option AV := some (.bool (decide (a ≥ b)))
def zx2 : BinOp → IntKind → Int → Int → Option AV := fun op => match op with
 | .add => bI_add
 | .sub => bI_sub
 | .mul => bI_mul
 | .quo => bI_quo
 | .rem => bI_rem
 | .and => bI_and
 | .or => bI_or
 | .xor => bI_xor
 | .andNot => zx0
 | .shl => bI_shl
 | .shr => bI_shr
 | .eql => bI_eql
 | .neq => bI_neq
 | .lss => bI_lss
 | .leq => bI_leq
 | .gtr => bI_gtr
 | .geq => bI_geq
theorem zuz (op : BinOp) (k : IntKind) (a b : Int) : zx2 op k a b = zcw op k a b := by cases op <;> rfl
def zyy : BinOp → Bool := fun op => match op with
 | .shl => true
 | .shr => true
 | _ => false
def binII (op : BinOp) (k : IntKind) (a : Int) (k' : IntKind) (b : Int) : Option AV :=
 cond (zyy op) (zhw op k a b) (if k = k' then zx2 op k a b else none)
def binA2 (op : BinOp) (k : IntKind) (a : Int) : AV → Option AV := fun y => match y with
 | .int k' b => binII op k a k' b
 | y => zm9 op (.int k a) y
def binA3 (op : BinOp) (a : List UInt8) : AV → Option AV := fun y => match y with
 | .str b => zkp op a b
 | y => zm9 op (.str a) y
def binOpF (op : BinOp) (x : AV) : AV → Option AV := match x with
 | .int k a => binA2 op k a
 | .str a => binA3 op a
 | x => zm9 op x
theorem binII_eq (op : BinOp) (k : IntKind) (a : Int) (k' : IntKind) (b : Int) : binII op k a k' b = binOp op (.int k a) (.int k' b) := by
 cases op <;> simp only [binII, zyy, binOp, cond_true, cond_false, zuz]
theorem zx3 (op : BinOp) (x y : AV) : binOpF op x y = binOp op x y := by
 cases x <;> cases y <;> first
  | rfl
  | exact binII_eq ..
  | (unfold binOp; rfl)
noncomputable def getL (ih : TM → Option AV) (t : TM) : Option AV := TM.rec (motive := fun _ => Option AV) none (fun _ l _ _ _ => ih l) t
noncomputable def getR (ih : TM → Option AV) (t : TM) : Option AV := TM.rec (motive := fun _ => Option AV) none (fun _ _ r _ _ => ih r) t
noncomputable def getV (t : TM) : Option AV := TM.rec (motive := fun _ => Option AV) none (fun v _ _ _ _ => v) t
noncomputable def zyi (p : List Bool) : TM → Option AV := List.rec (motive := fun _ => TM → Option AV) getV (fun b _ ih => Bool.rec (motive := fun _ => TM → Option AV) (getL ih) (getR ih) b) p
theorem getPK_eq (p : List Bool) : zyi p = TM.getP p := by
 induction p with
 | nil => funext t; cases t <;> rfl
 | cons b p ih =>
  show Bool.rec (motive := fun _ => TM → Option AV) (getL (zyi p)) (getR (zyi p)) b = zyj b (TM.getP p)
  rw [ih]
  funext t
  cases b <;> cases t <;> rfl
noncomputable def argT (n : Nat) (S : AS) : Option AV := zyi (zgo n) S.tmps
def argC (v : AV) (_ : AS) : Option AV := some v
noncomputable def argD (a : Arg) : AS → Option AV := Arg.rec (motive := fun _ => AS → Option AV) argT argC a
noncomputable def zdt (S : AS) (a : Arg) : Option AV := argD a S
theorem zb9 (S : AS) (a : Arg) : zdt S a = S.arg a := by
 cases a with
 | c => rfl
 | t n => show zyi (zgo n) S.tmps = TM.getP (zgo n) S.tmps; rw [getPK_eq]
def consO (o1 : Option AV) (o2 : Option (List AV)) : Option (List AV) := match o1 with
 | some v => match o2 with
  | some vs => some (v :: vs)
  | none => none
 | none => none
noncomputable def zph (S : AS) (l : List Arg) : Option (List AV) := List.rec (motive := fun _ => Option (List AV)) (some []) (fun a _ ih => consO (zdt S a) ih) l
theorem zhu (S : AS) (l : List Arg) : zph S l = S.args l := by
 induction l with
 | nil => rfl
 | cons a l ih => show consO (zdt S a) (zph S l) = _; rw [ih, zb9, AS.args]; cases S.arg a <;> cases S.args l <;> rfl
noncomputable def zoq (S : AS) (o : Option Arg) : Option (Option AV) := match o with
 | none => some none
 | some a => (zdt S a).map some
theorem zor (S : AS) (o : Option Arg) : zoq S o = S.oarg o := by
 cases o with
 | none => rfl
 | some a => simp only [zoq, zb9, AS.oarg]
def consP (off size : Nat) (o1 : Option AV) (o2 : Option (List (Nat × AV))) : Option (List (Nat × AV)) := match o1 with
 | some v => match o2 with
  | some r => match v.cells? with
   | some vs => if vs.length = size then some ((off, v) :: r) else none
   | none => none
  | none => none
 | none => none
noncomputable def zu8 (S : AS) (l : List (Nat × Nat × Arg)) : Option (List (Nat × AV)) := List.rec (motive := fun _ => Option (List (Nat × AV))) (some []) (fun x _ ih => consP x.1 x.2.1 (zdt S x.2.2) ih) l
theorem zqi (S : AS) (l : List (Nat × Nat × Arg)) : zu8 S l = S.parts l := by
 induction l with
 | nil => rfl
 | cons x l ih => obtain ⟨a, b, c⟩ := x; show consP a b (zdt S c) (zu8 S l) = _; rw [ih, zb9, AS.parts]; cases S.arg c <;> cases S.parts l <;> rfl
noncomputable def i_mov (a : Arg) (S : AS) : Option (AV × AS) := (zdt S a).map (·, S)
noncomputable def zyt (c : Arg) (a : Arg) (b : Arg) (S : AS) : Option (AV × AS) := match zdt S c with
  | some (.bool t) => (if t then zdt S a else zdt S b).map (·, S)
  | _ => none
noncomputable def zru (z : List AV) (S : AS) : Option (AV × AS) := some (.mptr S.next S.clk 0, S.new (.cells z))
noncomputable def i_box (a : Arg) (S : AS) : Option (AV × AS) := match zdt S a with
  | some v => match v.cells? with
   | some cs => some (.mptr S.next S.clk 0, S.new (.cells cs))
   | none => none
  | none => none
noncomputable def zrv (z : List AV) (ps : List (Nat × Nat × Arg)) (S : AS) : Option (AV × AS) := match zu8 S ps with
  | some l => match zcb z l with
   | some cs => some (.agg cs, S)
   | none => none
  | none => none
noncomputable def zo9 (sz : Nat) (len : Nat) (z : List AV) (ps : List (Nat × Nat × Arg)) (S : AS) : Option (AV × AS) := match zu8 S ps with
  | some l => match zcb z l with
   | some cs => some (.ms S.next S.clk sz 0 len (some len), S.new (.cells cs))
   | none => none
  | none => none
noncomputable def zyp (agg : Option Nat) (a : Arg) (S : AS) : Option (AV × AS) := match zdt S a with
  | some p => match S.deref p with
   | some cs => match agg with
    | some n => if n ≤ cs.length then some (.agg (cs.take n), S) else none
    | none => match cs with
     | x :: _ => some (x, S)
     | [] => none
   | none => none
  | none => none
noncomputable def zs2 (size : Nat) (a : Arg) (v : Arg) (S : AS) : Option (AV × AS) := match zdt S a, zdt S v with
  | some p, some v => match v.cells? with
   | some vs => if vs.length = size then (S.store p vs).map (.tup [], ·) else none
   | none => none
  | _, _ => none
noncomputable def zog (a : Arg) (S : AS) : Option (AV × AS) := match zdt S a with
  | some (.vptr cs) => some (.vptr cs, S)
  | some (.mptr id st off) => some (.mptr id st off, S)
  | some (.fn f a b) => some (.fn f a b, S)
  | _ => none
noncomputable def i_bin (op : BinOp) (x : Arg) (y : Arg) (S : AS) : Option (AV × AS) := match zdt S x, zdt S y with
  | some a, some b => (binOpF op a b).map (·, S)
  | _, _ => none
noncomputable def i_eqb (neg : Bool) (x : Arg) (y : Arg) (S : AS) : Option (AV × AS) := match zdt S x, zdt S y with
  | some (.bool a), some (.bool b) => some (.bool (if neg then !(a == b) else a == b), S)
  | _, _ => none
noncomputable def i_eqs (neg : Bool) (fs : List (Nat × EqK)) (x : Arg) (y : Arg) (S : AS) : Option (AV × AS) := match zdt S x, zdt S y with
  | some (.agg a), some (.agg b) => match zvc a b fs with
   | some r => some (.bool (if neg then !r else r), S)
   | none => none
  | _, _ => none
noncomputable def i_un (op : UnOp) (a : Arg) (S : AS) : Option (AV × AS) := match zdt S a with
  | some v => (unOp op v).map (·, S)
  | none => none
noncomputable def zyl (k : IntKind) (a : Arg) (S : AS) : Option (AV × AS) := match zdt S a with
  | some v => (zxr k v).map (·, S)
  | none => none
noncomputable def zyq (f : FuncId) (first : List Arg) (cap : List Arg) (S : AS) : Option (AV × AS) := match zph S first, zph S cap with
  | some a, some b => some (.fn f a b, S)
  | _, _ => none
noncomputable def zld (sz : Nat) (bytes : Nat) (z : List AV) (l : Arg) (c : Arg) (S : AS) : Option (AV × AS) := match zdt S l, zdt S c with
  | some (.int _ l), some (.int _ c) =>
   if 0 ≤ l ∧ l ≤ c ∧ c ≤ 1048576 ∧ bytes ≤ 16777216 then some (.ms S.next S.clk sz 0 l.toNat (some c.toNat), S.new (.cells (zr3 c.toNat z))) else none
  | _, _ => none
noncomputable def zyu (sz : Nat) (x : Arg) (lo : Option Arg) (hi : Option Arg) (mx : Option Arg) (S : AS) : Option (AV × AS) := match zdt S x, zoq S lo, zoq S hi, zoq S mx with
  | some v, some lo, some hi, some mx => (zvv sz v lo hi mx).map (·, S)
  | _, _, _, _ => none
noncomputable def zs0 (n : Nat) (sz : Nat) (x : Arg) (lo : Option Arg) (hi : Option Arg) (S : AS) : Option (AV × AS) := match zdt S x, zoq S lo, zoq S hi with
  | some (.mptr id st off), some lo, some hi => match zct lo 0, zct hi n with
   | some l, some h => if 0 ≤ l ∧ l ≤ h ∧ h ≤ n then some (.ms id st sz (off + l.toNat * sz) (h.toNat - l.toNat) (some (n - l.toNat)), S) else none
   | _, _ => none
  | _, _, _ => none
noncomputable def zs1 (x : Arg) (lo : Option Arg) (hi : Option Arg) (S : AS) : Option (AV × AS) := match zdt S x, zoq S lo, zoq S hi with
  | some (.str s), some lo, some hi => match zct lo 0, zct hi s.length with
   | some l, some h => if 0 ≤ l ∧ l ≤ h ∧ h ≤ s.length then some (.str ((s.drop l.toNat).take (h.toNat - l.toNat)), S) else none
   | _, _ => none
  | _, _, _ => none
noncomputable def zrx (off : Nat) (x : Arg) (S : AS) : Option (AV × AS) := match zdt S x with
  | some (.vptr cs) => if off ≤ cs.length then some (.vptr (cs.drop off), S) else none
  | some (.mptr id st o) => some (.mptr id st (o + off), S)
  | _ => none
noncomputable def zry (off : Nat) (agg : Option Nat) (x : Arg) (S : AS) : Option (AV × AS) := match zdt S x with
  | some (.agg cs) => match agg with
   | some n => if off + n ≤ cs.length then some (.agg ((cs.drop off).take n), S) else none
   | none => (cs[off]?).map (·, S)
  | _ => none
noncomputable def zyn (sz : Nat) (x : Arg) (i : Arg) (S : AS) : Option (AV × AS) := match zdt S x, zdt S i with
  | some (.vs es), some (.int _ n) => if 0 ≤ n ∧ n < es.length then match es[n.toNat]? with
    | some e => if e.length = sz then some (.vptr e, S) else none
    | none => none
   else none
  | some (.ms id st sz' off len _), some (.int _ n) => if sz' = sz ∧ 0 ≤ n ∧ n < len then some (.mptr id st (off + n.toNat * sz), S) else none
  | _, _ => none
noncomputable def zob (n : Nat) (sz : Nat) (x : Arg) (i : Arg) (S : AS) : Option (AV × AS) := match zdt S x, zdt S i with
  | some (.vptr cs), some (.int _ k) => if 0 ≤ k ∧ k < n ∧ k.toNat * sz ≤ cs.length then some (.vptr (cs.drop (k.toNat * sz)), S) else none
  | some (.mptr id st off), some (.int _ k) => if 0 ≤ k ∧ k < n then some (.mptr id st (off + k.toNat * sz), S) else none
  | _, _ => none
noncomputable def zoa (n : Nat) (sz : Nat) (agg : Bool) (x : Arg) (i : Arg) (S : AS) : Option (AV × AS) := match zdt S x, zdt S i with
  | some (.agg cs), some (.int _ k) =>
   if 0 ≤ k ∧ k < n ∧ k.toNat * sz + sz ≤ cs.length then
    (if agg then some (.agg ((cs.drop (k.toNat * sz)).take sz), S) else (cs[k.toNat * sz]?).map (·, S))
   else none
  | _, _ => none
noncomputable def zoc (x : Arg) (i : Arg) (S : AS) : Option (AV × AS) := match zdt S x, zdt S i with
  | some (.str s), some (.int _ k) => if 0 ≤ k then match s[k.toNat]? with
    | some b => some (.int .u8 b.toNat, S)
    | none => none
   else none
  | _, _ => none
noncomputable def zlc (x : Arg) (i : Nat) (S : AS) : Option (AV × AS) := match zdt S x with
  | some (.tup vs) => (vs[i]?).map (·, S)
  | _ => none
noncomputable def i_len (b : Bool) (a : Arg) (S : AS) : Option (AV × AS) := match zdt S a with
  | some v => (lenA b v).map (·, S)
  | none => none
noncomputable def zyo (n : Nat) (S : AS) : Option (AV × AS) := some (.int .i64 n, S)
noncomputable def zo8 (sz : Nat) (bytes : Nat) (_x2 : List AV) (s : Arg) (x : Arg) (S : AS) : Option (AV × AS) := match zdt S s, zdt S x with
  | some sv, some xv => match S.elems sz xv with
   | some es => zd2 S sz bytes sv es
   | none => none
  | _, _ => none
noncomputable def zlb (sz : Nat) (bytes : Nat) (z : List AV) (s : Arg) (n : Arg) (S : AS) : Option (AV × AS) := match zdt S s, zdt S n with
  | some sv, some (.int _ n) => zfs S sz bytes z sv n
  | _, _ => none
noncomputable def zyk (a : Arg) (S : AS) : Option (AV × AS) := match zdt S a with
  | some v => match capOf v with
   | some n => some (.int .i64 (n : Int), S)
   | none => none
  | none => none
noncomputable def zyr (neg : Bool) (a : Arg) (S : AS) : Option (AV × AS) := match zdt S a with
  | some (.vs (_ :: _)) => some (.bool neg, S)
  | some (.ms _ _ _ _ (_ + 1) _) => some (.bool neg, S)
  | _ => none
noncomputable def zrz  (S : AS) : Option (AV × AS) := some (.mapv S.next S.clk, S.new (.map []))
noncomputable def zoe (kd : EqK) (m : Arg) (k : Arg) (v : Arg) (S : AS) : Option (AV × AS) := match zdt S m, zdt S k, zdt S v with
  | some m, some k, some v => (S.mapset kd m k v).map (.tup [], ·)
  | _, _, _ => none
noncomputable def zod (kd : EqK) (z : AV) (ok : Bool) (m : Arg) (k : Arg) (S : AS) : Option (AV × AS) := match zdt S m, zdt S k with
  | some m, some k => (S.mapget kd z ok m k).map (·, S)
  | _, _ => none
noncomputable def zym (sz : Nat) (d : Arg) (s : Arg) (S : AS) : Option (AV × AS) := match zdt S d, zdt S s with
  | some (.ms id st sz' off len _), some sv => match S.elems sz sv, look id S.heap with
   | some es, some (st', .cells cs) =>
    let new := (es.take len).flatten
    if st' = st ∧ sz' = sz ∧ off + len * sz ≤ cs.length ∧ new.all AV.isCell = true then
     some (.int .i64 (min es.length len : Nat), { S with heap := zax id (st, .cells (setAt off cs new)) S.heap })
    else none
   | _, _ => none
  | _, _ => none
noncomputable def zrw (_sz : Nat) (_z : List AV) (_x : Arg) (_S : AS) : Option (AV × AS) := none
noncomputable def zof (mx : Bool) (args : List Arg) (S : AS) : Option (AV × AS) := match zph S args with
  | some (.int k a :: l) => (l.foldlM (m := Option) (init := a) fun acc v => match v with
    | .int k' b => if k = k' then some (if mx then (if b > acc then b else acc) else (if b < acc then b else acc)) else none
    | _ => none).map fun n => (.int k n, S)
  | _ => none
def zys : AS → Option (AV × AS) := fun _ => none
noncomputable def zfy : IOp → AS → Option (AV × AS) := fun op => match op with
 | .mov a => i_mov a
 | .pick a b c => zyt a b c
 | .alloc a => zru a
 | .box a => i_box a
 | .build a b => zrv a b
 | .bslice a b c d => zo9 a b c d
 | .load a b => zyp a b
 | .store a b c => zs2 a b c
 | .nilchk a => zog a
 | .bin a b c => i_bin a b c
 | .eqb a b c => i_eqb a b c
 | .eqs a b c d => i_eqs a b c d
 | .un a b => i_un a b
 | .conv a b => zyl a b
 | .mkfn a b c => zyq a b c
 | .mkslice a b c d e => zld a b c d e
 | .slsl a b c d e => zyu a b c d e
 | .slarr a b c d e => zs0 a b c d e
 | .slstr a b c => zs1 a b c
 | .faddr a b => zrx a b
 | .field a b c => zry a b c
 | .idxs a b c => zyn a b c
 | .idxarr a b c d => zob a b c d
 | .idxagg a b c d e => zoa a b c d e
 | .idxstr a b => zoc a b
 | .extract a b => zlc a b
 | .len a b => i_len a b
 | .lenc a => zyo a
 | .append a b c d e => zo8 a b c d e
 | .appendz a b c d e => zlb a b c d e
 | .capo a => zyk a
 | .nilq a b => zyr a b
 | .mkmap => zrz
 | .mapset a b c d => zoe a b c d
 | .mapget a b c d e => zod a b c d e
 | .copy a b c => zym a b c
 | .clear a b c => zrw a b c
 | .minmax a b => zof a b
 | .call _ _ => zys
 | .bad => zys
noncomputable def zfz (S : AS) (op : IOp) : Option (AV × AS) := zfy op S
theorem zyw (S : AS) (op : IOp) : zfz S op = iop S op := by
 cases op
 case mov a => simp only [zfz, zfy, i_mov, zb9]; rfl
 case pick a b c => simp only [zfz, zfy, zyt, zb9]; rfl
 case alloc a => simp only [zfz, zfy, zru]; rfl
 case box a => simp only [zfz, zfy, i_box, zb9]; rfl
 case build a b => simp only [zfz, zfy, zrv, zqi]; rfl
 case bslice a b c d => simp only [zfz, zfy, zo9, zqi]; rfl
 case load a b => simp only [zfz, zfy, zyp, zb9]; rfl
 case store a b c => simp only [zfz, zfy, zs2, zb9]; rfl
 case nilchk a => simp only [zfz, zfy, zog, zb9]; rfl
 case bin op x y => simp only [zfz, zfy, i_bin, iop, zx3, zb9]; cases S.arg x <;> cases S.arg y <;> rfl
 case eqb a b c => simp only [zfz, zfy, i_eqb, zb9]; rfl
 case eqs a b c d => simp only [zfz, zfy, i_eqs, zb9]; rfl
 case un a b => simp only [zfz, zfy, i_un, zb9]; rfl
 case conv a b => simp only [zfz, zfy, zyl, zb9]; rfl
 case mkfn a b c => simp only [zfz, zfy, zyq, zhu]; rfl
 case mkslice a b c d e => simp only [zfz, zfy, zld, zb9]; rfl
 case slsl a b c d e => simp only [zfz, zfy, zyu, zb9, zor]; rfl
 case slarr a b c d e => simp only [zfz, zfy, zs0, zb9, zor]; rfl
 case slstr a b c => simp only [zfz, zfy, zs1, zb9, zor]; rfl
 case faddr a b => simp only [zfz, zfy, zrx, zb9]; rfl
 case field a b c => simp only [zfz, zfy, zry, zb9]; rfl
 case idxs a b c => simp only [zfz, zfy, zyn, zb9]; rfl
 case idxarr a b c d => simp only [zfz, zfy, zob, zb9]; rfl
 case idxagg a b c d e => simp only [zfz, zfy, zoa, zb9]; rfl
 case idxstr a b => simp only [zfz, zfy, zoc, zb9]; rfl
 case extract a b => simp only [zfz, zfy, zlc, zb9]; rfl
 case len a b => simp only [zfz, zfy, i_len, zb9]; rfl
 case lenc a => simp only [zfz, zfy, zyo]; rfl
 case append a b c d e => simp only [zfz, zfy, zo8, zb9]; rfl
 case appendz a b c d e => simp only [zfz, zfy, zlb, zb9]; rfl
 case capo a => simp only [zfz, zfy, zyk, zb9]; rfl
 case nilq a b => simp only [zfz, zfy, zyr, zb9]; rfl
 case mkmap  => simp only [zfz, zfy, zrz]; rfl
 case mapset a b c d => simp only [zfz, zfy, zoe, zb9]; rfl
 case mapget a b c d e => simp only [zfz, zfy, zod, zb9]; rfl
 case copy a b c => simp only [zfz, zfy, zym, zb9]; rfl
 case clear a b c => simp only [zfz, zfy, zrw]; rfl
 case minmax a b => simp only [zfz, zfy, zof, zhu]; rfl
 all_goals rfl
mutual
def AV.beq : AV → AV → Bool
 | .top, .top => true
 | .bool a, .bool b => a == b
 | .int k n, .int k' n' => decide (k = k') && decide (n = n')
 | .str s, .str t => decide (s = t)
 | .nilp, .nilp => true
 | .vptr a, .vptr b => zr2 a b
 | .mptr a b c, .mptr a' b' c' => a == a' && b == b' && c == c'
 | .nils, .nils => true
 | .vs a, .vs b => zuy a b
 | .ms a b c d e f, .ms a' b' c' d' e' f' => a == a' && b == b' && c == c' && d == d' && e == e' && decide (f = f')
 | .fn f a b, .fn f' a' b' => decide (f = f') && zr2 a a' && zr2 b b'
 | .yield a b, .yield a' b' => a == a' && b == b'
 | .nilf, .nilf => true
 | .agg a, .agg b => zr2 a b
 | .tup a, .tup b => zr2 a b
 | .mapv a b, .mapv a' b' => a == a' && b == b'
 | .rng k a b, .rng k' a' b' => decide (k = k') && decide (a = a') && decide (b = b')
 | .ints k l, .ints k' l' => decide (k = k') && decide (l = l')
 | .strA n a b, .strA n' a' b' => decide (n = n') && a == a' && b == b'
 | _, _ => false
def zr2 : List AV → List AV → Bool
 | [], [] => true
 | a :: l, b :: m => AV.beq a b && zr2 l m
 | _, _ => false
def zuy : List (List AV) → List (List AV) → Bool
 | [], [] => true
 | a :: l, b :: m => zr2 a b && zuy l m
 | _, _ => false
end
mutual
theorem AV.eq_of_beq : ∀ (a b : AV), AV.beq a b = true → a = b := fun a b h => by
 cases a <;> cases b <;> simp only [AV.beq, y0h, beq_iff_eq, decide_eq_true_eq, y0l] at h
 all_goals first
  | rfl
  | (subst h; rfl)
  | (obtain ⟨rfl, rfl⟩ := h; rfl)
  | (obtain ⟨⟨rfl, rfl⟩, rfl⟩ := h; rfl)
  | (obtain ⟨⟨⟨⟨⟨rfl, rfl⟩, rfl⟩, rfl⟩, rfl⟩, rfl⟩ := h; rfl)
  | skip
 case vptr a b => rw [zcx a b h]
 case vs a b => rw [zl2 a b h]
 case fn f a b f' a' b' => obtain ⟨⟨rfl, h1⟩, h2⟩ := h; rw [zcx _ _ h1, zcx _ _ h2]
 case agg a b => rw [zcx a b h]
 case tup a b => rw [zcx a b h]
theorem zcx : ∀ (a b : List AV), zr2 a b = true → a = b
 | [], [], _ => rfl
 | a :: l, b :: m, h => by
  simp only [zr2, y0h] at h
  rw [AV.eq_of_beq a b h.1, zcx l m h.2]
 | [], _ :: _, h => by simp [zr2] at h
 | _ :: _, [], h => by simp [zr2] at h
theorem zl2 : ∀ (a b : List (List AV)), zuy a b = true → a = b
 | [], [], _ => rfl
 | a :: l, b :: m, h => by
  simp only [zuy, y0h] at h
  rw [zcx a b h.1, zl2 l m h.2]
 | [], _ :: _, h => by simp [zuy] at h
 | _ :: _, [], h => by simp [zuy] at h
end
def zc6 : IOp → Bool
 | .alloc _ | .box _ | .bslice .. | .store .. | .mkslice .. | .append .. | .appendz .. | .copy .. | .clear .. | .mkmap | .mapset .. | .call .. => true
 | _ => false
theorem zgl {S S1 : AS} {op : IOp} {v : AV} (hl : zc6 op = false) (h : iop S op = some (v, S1)) : S1 = S := by
 cases op <;> simp only [zc6, Bool.true_eq_false] at hl <;> simp only [iop] at h
 all_goals (repeat' (split at h)) <;> simp only [y01, y00, y0a, reduceCtorEq] at h
 all_goals first
   | (obtain ⟨_, rfl⟩ := h; rfl)
   | (obtain ⟨_, _, _, rfl⟩ := h; rfl)
structure FnI where
 size : Nat
 ic : IC
 res : List RA
structure Env where
 fn : FuncId → Option FnI
 orc : FuncId → List AV → Option AV
 sum : FuncId → List AV → HS → Option (AV × HS)
 pure : FuncId → Bool
 known : FuncId → Bool
 fuel : Nat
structure Rec where
 f : FuncId → List AV → HS → Option (AV × HS)
 c : Option (Nat × Nat) → IC → AS → Option (Exit × AS)
def zgc (P : Program) (R : Rec) : Prop :=
 (∀ f args H v H', R.f f args H = some (v, H') → ∀ w0 N0, FT P w0 N0 f args H fun v1 H1 => v1 = v ∧ H1 = H') ∧
 (∀ rd ic S e S', R.c rd ic S = some (e, S') → ∀ w0 N0, T P w0 N0 rd ic S fun e1 S1 => e1 = e ∧ S1 = S')
structure EnvOk (P : Program) (E : Env) : Prop where
 fn : ∀ f i, E.fn f = some i → ∃ fn code, P.funcs[f]? = some fn ∧ fn.body = some code ∧ zhz P code = some i.ic ∧ fn.ntmps = i.size ∧ zg5 P fn.results.toList = some i.res ∧ Ent P f
 orc : ∀ f args v, E.orc f args = some v → PF P f args v
 sum : ∀ f args H v H', E.sum f args H = some (v, H') → ∀ w0 N0, FT P w0 N0 f args H fun v1 H1 => v1 = v ∧ H1 = H'
 mix : P.follows .mixedOrders = true
def zic (marks : List (Nat × Nat)) (hp : List (Nat × Nat × AObj)) : Bool :=
 marks.all fun m => match look m.1 hp with
  | some (st, .deferred) => st == m.2
  | _ => false
theorem zmu {marks : List (Nat × Nat)} {hp : List (Nat × Nat × AObj)} (h : zic marks hp = true) : zdd marks hp := by
 intro m hm
 have := y0f.1 h m hm
 split at this
 ·rename_i st hl; rw [hl]; simp at this; rw [this]
 ·cases this
def zdr (E : Env) (R : Rec) (S : AS) (fv : AV) (vs : List AV) : Option AV :=
 match fv with
 | .fn fid first cap => match E.orc fid ((first ++ vs ++ cap).map (S.view VD)) with
  | some v => if hasM.hasML (first ++ vs ++ cap) = false ∨ flat v = true then some v else none
  | none => if E.pure fid = true then
    match R.f fid ((first ++ vs ++ cap).map (S.view VD)) ⟨[], 0, 0⟩ with
    | some (v0, H) => if hasM.hasML (first ++ vs ++ cap) = false ∨ flat ((⟨0, .nil, H.heap, H.next, H.clk, []⟩ : AS).view VD v0) = true then some ((⟨0, .nil, H.heap, H.next, H.clk, []⟩ : AS).view VD v0) else none
    | none => none
   else none
 | _ => none
def zba (E : Env) (R : Rec) (S : AS) (io : Opr) : Option AV :=
 match io.op with
 | .call fa args => match S.arg fa, S.args args with
  | some fv, some vs => zdr E R S fv vs
  | _, _ => none
 | op => if zc6 op then none else (iop S op).map (·.1)
def yav (P : Program) (R : Rec) (id st : Nat) (args : List AV) (H : HS) : Option (AV × HS) :=
 match look id H.heap with
 | some (st', .loop .ready none size tmps ps ca cb _) =>
  if st' = st ∧ ps.length = args.length ∧ ps.all (fun p => decide (p < size)) = true then
   match zhz P ca, zhz P cb with
   | some ia, some ib => match R.c (some (id, st)) ia (AS.round size tmps ps args H) with
    | some (.normal, S1) => match look id S1.heap with
     | some (st1, .loop .ready none size1 tmps1 ps1 ca1 cb1 df1) =>
      if st1 = st then match R.c (some (id, st)) ib { S1 with heap := zax id (st, .loop .busy none size1 tmps1 ps1 ca1 cb1 df1) S1.heap } with
       | some (e, S2) => match look id S2.heap with
        | some (st2, .loop .busy none size2 tmps2 ps2 ca2 cb2 df2) =>
         if st2 = st then match zts e with
          | some j => some (.bool j.isNone, ⟨zax id (st, .loop (if j.isNone then .ready else .done) j size2 tmps2 ps2 ca2 cb2 df2) S2.heap, S2.next, S2.clk⟩)
          | none => none
         else none
        | _ => none
       | none => none
      else none
     | _ => none
    | _ => none
   | _, _ => none
  else none
 | _ => none
def zxg (P : Program) (R : Rec) (fv : AV) (vs : List AV) (H : HS) : Option (AV × HS) :=
 match fv with
 | .fn fid first cap => R.f fid (first ++ vs ++ cap) H
 | .yield id st => yav P R id st vs H
 | _ => none
def zgn (P : Program) (R : Rec) (S : AS) (io : Opr) : Option (AV × HS) :=
 match io.op with
 | .call fa args => match S.arg fa, S.args args with
  | some fv, some vs => match zxg P R fv vs S.hs with
   | some (v, H) => if zic S.marks H.heap then some (v, H) else none
   | none => none
  | _, _ => none
 | op => match iop S op with
  | some (v, S1) => some (v, S1.hs)
  | none => none
section
variable {P : Program} {w0 w : World} {N0 : Nat} {S S' S1 : AS} {rd : Option (Nat × Nat)} {Q : Exit → AS → Prop} {E : Env} {R : Rec} {io : Opr} {v : AV} {H : HS}
theorem zzo (hE : EnvOk P E) (hR : zgc P R) {fid : FuncId} {first cap vs : List AV} (h : zdr E R S (.fn fid first cap) vs = some v) :
  PF P fid ((first ++ vs ++ cap).map (S.view VD)) v ∧ (hasM.hasML (first ++ vs ++ cap) = false ∨ flat v = true) := by
 simp only [zdr] at h
 split at h
 ·rename_i v' hv
  split at h
  ·rename_i hc
   simp only [y00] at h; subst h
   exact ⟨hE.orc _ _ _ hv, hc⟩
  ·cases h
 ·split at h <;> try cases h
  split at h <;> try cases h
  rename_i v0 H0 hr
  split at h <;> try cases h
  rename_i hc
  exact ⟨zst fun w0 N0 => (hR.1 _ _ _ _ _ hr w0 N0).mono fun v1 H1 ⟨e1, e2⟩ => by subst e1 e2; rfl, hc⟩
theorem zds (hE : EnvOk P E) (hR : zgc P R) (h : zba E R S io = some v) : Stp P w0 N0 rd io S fun S2 v2 => v2 = v ∧ S2 = S := by
 unfold zba at h
 split at h
 ·rename_i fa args hop
  split at h
  ·rename_i fv vs hf ha
   cases fv with
   | fn fid first cap =>
    obtain ⟨h1, hc⟩ := zzo hE hR h
    exact (Stp_pure hop hf ha h1 (fun hm => hc.resolve_left (by rw [hm]; simp))).mono fun S v ⟨e1, e2⟩ => ⟨e2, e1⟩
   | _ => simp [zdr] at h
  ·cases h
 ·split at h
  ·cases h
  ·rename_i hl
   simp only [y01, Prod.exists, exists_and_right, exists_eq_right] at h
   obtain ⟨S1, h1⟩ := h
   obtain rfl := zgl (by simpa using hl) h1
   exact (zm8 h1).mono fun S v ⟨e1, e2⟩ => ⟨e2, e1⟩
theorem yaw (hR : zgc P R) {id st : Nat} {args : List AV} {H' : HS} (h : yav P R id st args H = some (v, H')) : CT P w0 N0 (.yield id st) args H fun v1 H1 => v1 = v ∧ H1 = H' := by
 unfold yav at h
 split at h <;> try cases h
 rename_i st' size tmps ps ca cb df hl
 split at h <;> try cases h
 rename_i hc
 obtain ⟨rfl, hps, hlt⟩ := hc
 split at h <;> try cases h
 rename_i ia ib hia hib
 split at h <;> try cases h
 rename_i S1 hc1
 split at h <;> try cases h
 rename_i st1 size1 tmps1 ps1 ca1 cb1 df1 hl1
 split at h <;> try cases h
 rename_i e1; subst e1
 split at h <;> try cases h
 rename_i e S2 hc2
 split at h <;> try cases h
 rename_i st2 size2 tmps2 ps2 ca2 cb2 df2 hl2
 split at h <;> try cases h
 rename_i e2; subst e2
 split at h <;> try cases h
 rename_i j hj
 refine znh hl (ztf hia) (ztf hib) hps (fun p hp => by simpa using y0f.1 hlt p hp) (zed (hR.2 _ _ _ _ _ hc1 w0 N0) fun e3 S3 ⟨k1, k2⟩ => ?_)
 subst k1 k2
 refine ⟨rfl, _, _, _, _, _, _, hl1, zed (hR.2 _ _ _ _ _ hc2 w0 N0) fun e4 S4 ⟨k1, k2⟩ => ?_⟩
 subst k1 k2
 exact ⟨_, _, _, _, _, _, hl2, j, hj, rfl, rfl⟩
theorem callV_ok (hR : zgc P R) {fv : AV} {vs : List AV} {H' : HS} (h : zxg P R fv vs H = some (v, H')) : CT P w0 N0 fv vs H fun v1 H1 => v1 = v ∧ H1 = H' := by
 unfold zxg at h
 split at h
 ·exact zhr (hR.1 _ _ _ _ _ h w0 N0)
 ·exact yaw hR h
 ·cases h
theorem ztw (hR : zgc P R) {H' : HS} (h : zgn P R S io = some (v, H')) : Stp P w0 N0 rd io S fun S2 v2 => v2 = v ∧ S2 = S.withH H' := by
 unfold zgn at h
 split at h
 ·rename_i fa args hop
  split at h <;> try cases h
  rename_i fv vs hf ha
  split at h <;> try cases h
  rename_i v1 H1 hv
  split at h <;> try cases h
  rename_i hm
  exact (zm7 hop hf ha (callV_ok hR hv) (fun v2 H2 ⟨_, e⟩ => e ▸ zmu hm)).mono fun S2 v2 ⟨H2, ⟨e1, e2⟩, e3⟩ => ⟨e1, by rw [e3, e2]⟩
 ·split at h <;> try cases h
  rename_i v1 S1 h1
  exact (zm8 h1).mono fun S2 v2 ⟨e1, e2⟩ => ⟨e2, by rw [e1]; exact zh2 h1⟩
end
end Go.Am
namespace Go.Am
open Go Go.RowKit
def zde (P : Program) (E : Env) (R : Rec) (S : AS) (io : Opr) : Option (AV × HS) :=
 match zba E R S io with
 | some v => some (v, S.hs)
 | none => zgn P R S io
def zw5 (P : Program) (E : Env) (R : Rec) : List Opr → AS → Option AS
 | [], S => some S
 | io :: ios, S => match zay S io with
  | some true => match zde P E R S io with
   | some (v, H) => if zcj S.size io.dst then zw5 P E R ios ((S.withH H).put io.dst v) else none
   | none => none
  | some false => if zcj S.size io.dst then zw5 P E R ios (S.put io.dst (.tup [])) else none
  | none => none
section
variable {P : Program} {w0 w : World} {N0 : Nat} {S S' S1 : AS} {rd : Option (Nat × Nat)} {Q : Exit → AS → Prop} {E : Env} {R : Rec} {io : Opr} {v : AV} {H : HS}
theorem zke (hE : EnvOk P E) (hR : zgc P R) {H' : HS} (h : zde P E R S io = some (v, H')) : Stp P w0 N0 rd io S fun S2 v2 => v2 = v ∧ S2 = S.withH H' := by
 unfold zde at h
 split at h
 ·rename_i v1 hq
  simp only [y00, y0a] at h
  obtain ⟨rfl, rfl⟩ := h
  exact zds hE hR hq
 ·exact ztw hR h
theorem zsj (hE : EnvOk P E) (hR : zgc P R) : ∀ {ios : List Opr} {S S' : AS}, zw5 P E R ios S = some S' → TO P w0 N0 rd ios S fun S1 => S1 = S'
 | [], S, S', h => by
  simp only [zw5, y00] at h
  exact TO_nil h
 | io :: ios, S, S', h => by
  simp only [zw5] at h
  split at h
  ·rename_i hw
   split at h <;> try cases h
   rename_i v H hst
   split at h <;> try cases h
   rename_i hd
   exact zkk (zke hE hR hst) hw fun S2 v2 ⟨e1, e2⟩ => by subst e1 e2; exact ⟨hd, zsj hE hR h⟩
  ·rename_i hw
   split at h <;> try cases h
   rename_i hd
   exact zwh hw hd (zsj hE hR h)
  ·cases h
def zw1 : List Nat → List Nat → List Nat
 | [], m => m
 | x :: l, m => if (zw1 l m).contains x then zw1 l m else x :: zw1 l m
theorem zli {x : Nat} : ∀ {l m : List Nat}, x ∈ zw1 l m → x ∈ l ∨ x ∈ m
 | [], m, h => .inr h
 | y :: l, m, h => by
  simp only [zw1] at h
  split at h
  ·rcases zli h with h | h
   ·exact .inl (y04 _ h)
   ·exact .inr h
  ·rcases y0m.1 h with rfl | h
   ·exact .inl (y05 ..)
   ·rcases zli h with h | h
    ·exact .inl (y04 _ h)
    ·exact .inr h
def zeq (tr : List Tr) : List Nat → List Nat
 | [] => []
 | p :: ps => zw1 (p :: (match tr[p]? with | some t => t.anc | none => [])) (zeq tr ps)
theorem zlh {tr : List Tr} {q : Nat} : ∀ {ps : List Nat}, q ∈ zeq tr ps → ∃ p ∈ ps, q = p ∨ ∃ t, tr[p]? = some t ∧ q ∈ t.anc
 | [], h => by simp [zeq] at h
 | p :: ps, h => by
  rcases zli h with h | h
  ·rcases y0m.1 h with rfl | h
   ·exact ⟨_, y05 .., .inl rfl⟩
   ·refine ⟨p, y05 .., .inr ?_⟩
    cases ht : tr[p]? with
    | none => simp [ht] at h
    | some t => exact ⟨t, rfl, by simpa [ht] using h⟩
  ·obtain ⟨p', h1, h2⟩ := zlh h
   exact ⟨p', y04 _ h1, h2⟩
structure DR where
 tr : List Tr
 louds : List Nat
 heaps : List HS
def znx (P : Program) (E : Env) (R : Rec) (S : AS) (rf : Nat → TM) : List Opr → List (List Nat) → List Tr → List Nat → List HS → HS → Option DR
 | [], [], tr, louds, heaps, H => some ⟨tr, louds, heaps ++ [H]⟩
 | io :: ios, ps :: pres, tr, louds, heaps, H =>
  if ps.all (fun p => decide (p < tr.length)) then
   let anc := zeq tr ps
   let B := S.base (rf tr.length) tr anc H
   match zay B io with
   | some false => znx P E R S rf ios pres (tr ++ [⟨io.dst, .tup [], anc⟩]) louds heaps H
   | some true => match zba E R B io with
    | some v => znx P E R S rf ios pres (tr ++ [⟨io.dst, v, anc⟩]) louds heaps H
    | none => match zgn P R B io with
     | some (v, H') => znx P E R S rf ios pres (tr ++ [⟨io.dst, v, anc⟩]) (louds ++ [tr.length]) (heaps ++ [H]) H'
     | none => none
   | none => none
  else none
 | _, _, _, _, _, _ => none
theorem zlp {tr tr' : List Tr} {rest : TM} : ∀ {l : List Nat}, (∀ p ∈ l, p < tr.length) → zg8 (tr ++ tr') rest l = zg8 tr rest l
 | [], _ => rfl
 | p :: l, h => by
  have hp : (tr ++ tr')[p]? = tr[p]? := y0u (h p (y05 ..))
  simp only [zg8, hp, zlp fun q hq => h q (y04 _ hq)]
theorem zkn {tr tr' : List Tr} {rest : TM} {l : List Nat} (h : ∀ p ∈ l, p < tr.length) : S.base rest (tr ++ tr') l H = S.base rest tr l H := by
 simp only [AS.base, zlp h]
structure Inv1 (P : Program) (E : Env) (R : Rec) (S : AS) (rf : Nat → TM) (done : List Opr) (dpres : List (List Nat)) (tr : List Tr) (louds : List Nat) (heaps : List HS) (H : HS) : Prop where
 l1 : tr.length = done.length
 l2 : dpres.length = done.length
 l3 : heaps.length = louds.length
 h0 : (heaps ++ [H])[0]? = some S.hs
 dst : ∀ (i : Nat) (io : Opr) (t : Tr), done[i]? = some io → tr[i]? = some t → t.dst = io.dst
 acyc : ∀ (i : Nat) (ps : List Nat), dpres[i]? = some ps → ∀ p ∈ ps, p < i
 anc : ∀ (i : Nat) (ps : List Nat) (t : Tr), dpres[i]? = some ps → tr[i]? = some t → ∀ q ∈ t.anc, ∃ p ∈ ps, q = p ∨ ∃ t' : Tr, tr[p]? = some t' ∧ q ∈ t'.anc
 alt : ∀ (i : Nat) (t : Tr), tr[i]? = some t → ∀ q ∈ t.anc, q < i
 lob : ∀ l ∈ louds, l < done.length
 loud : ∀ (m l : Nat), louds[m]? = some l → ∃ io t H1 H2, done[l]? = some io ∧ tr[l]? = some t ∧ (heaps ++ [H])[m]? = some H1 ∧ (heaps ++ [H])[m + 1]? = some H2 ∧
  zay (S.base (rf l) tr t.anc H1) io = some true ∧ zgn P R (S.base (rf l) tr t.anc H1) io = some (t.v, H2)
theorem zf3 {α : Type} {l : List α} {x y : α} {i : Nat} (h : (l ++ [x])[i]? = some y) : l[i]? = some y ∨ (i = l.length ∧ y = x) := by
 rcases Nat.lt_trichotomy i l.length with h1 | h1 | h1
 ·left; rwa [y0u h1] at h
 ·right; subst h1; simp at h; exact ⟨rfl, h.symm⟩
 ·rw [y13 (by omega)] at h
  have : i - l.length ≠ 0 := by omega
  rw [List.getElem?_cons] at h; simp [this] at h
theorem zf2 {α : Type} {l m : List α} {y : α} {i : Nat} (h : l[i]? = some y) : (l ++ m)[i]? = some y := by
 rw [y0u (y02.1 h).1]; exact h
theorem Inv1.step {rf : Nat → TM} {done : List Opr} {dpres : List (List Nat)} {tr : List Tr} {louds : List Nat} {heaps : List HS} (h : Inv1 P E R S rf done dpres tr louds heaps H) {ps : List Nat}
  (hps : ∀ p ∈ ps, p < tr.length) :
  (∀ q ∈ zeq tr ps, q < tr.length) ∧
  (
   (∀ io v, Inv1 P E R S rf (done ++ [io]) (dpres ++ [ps]) (tr ++ [⟨io.dst, v, zeq tr ps⟩]) louds heaps H) ∧
   (∀ io v H', zay (S.base (rf tr.length) tr (zeq tr ps) H) io = some true → zgn P R (S.base (rf tr.length) tr (zeq tr ps) H) io = some (v, H') →
    Inv1 P E R S rf (done ++ [io]) (dpres ++ [ps]) (tr ++ [⟨io.dst, v, zeq tr ps⟩]) (louds ++ [tr.length]) (heaps ++ [H]) H')) := by
 have hanc : ∀ q ∈ zeq tr ps, q < tr.length := by
  intro q hq
  obtain ⟨p, hp, h1⟩ := zlh hq
  rcases h1 with rfl | ⟨t, ht, hqt⟩
  ·exact hps _ hp
  ·have := h.alt p t ht q hqt
   have := hps p hp
   omega
 have hdst : ∀ (io : Opr) (v : AV) (i : Nat) (io' : Opr) (t : Tr), (done ++ [io])[i]? = some io' → (tr ++ [⟨io.dst, v, zeq tr ps⟩])[i]? = some t → t.dst = io'.dst := by
  intro io v i io' t h1 h2
  rcases zf3 h1 with h1 | ⟨e1, e2⟩ <;> rcases zf3 h2 with h2 | ⟨e3, e4⟩
  ·exact h.dst i io' t h1 h2
  ·have := (y02.1 h1).1; rw [← h.l1] at this; omega
  ·have := (y02.1 h2).1; rw [h.l1] at this; omega
  ·subst e2 e4; rfl
 have hacyc : ∀ (i : Nat) (ps' : List Nat), (dpres ++ [ps])[i]? = some ps' → ∀ p ∈ ps', p < i := by
  intro i ps' h1
  rcases zf3 h1 with h1 | ⟨e1, e2⟩
  ·exact h.acyc i ps' h1
  ·subst e1 e2; rw [h.l2, ← h.l1]; exact hps
 have hanc2 : ∀ (io : Opr) (v : AV) (i : Nat) (ps' : List Nat) (t : Tr), (dpres ++ [ps])[i]? = some ps' → (tr ++ [(⟨io.dst, v, zeq tr ps⟩ : Tr)])[i]? = some t → ∀ q ∈ t.anc, ∃ p ∈ ps', q = p ∨ ∃ t' : Tr, (tr ++ [(⟨io.dst, v, zeq tr ps⟩ : Tr)])[p]? = some t' ∧ q ∈ t'.anc := by
  intro io v i ps' t h1 h2 q hq
  rcases zf3 h1 with h1 | ⟨e1, e2⟩ <;> rcases zf3 h2 with h2 | ⟨e3, e4⟩
  ·obtain ⟨p, k1, k2⟩ := h.anc i ps' t h1 h2 q hq
   exact ⟨p, k1, k2.imp id fun ⟨t', k3, k4⟩ => ⟨t', zf2 k3, k4⟩⟩
  ·have := (y02.1 h1).1; rw [h.l2, ← h.l1] at this; omega
  ·have := (y02.1 h2).1; rw [h.l1, ← h.l2] at this; omega
  ·subst e2 e4
   obtain ⟨p, k1, k2⟩ := zlh hq
   exact ⟨p, k1, k2.imp id fun ⟨t', k3, k4⟩ => ⟨t', zf2 k3, k4⟩⟩
 have halt : ∀ (io : Opr) (v : AV) (i : Nat) (t : Tr), (tr ++ [(⟨io.dst, v, zeq tr ps⟩ : Tr)])[i]? = some t → ∀ q ∈ t.anc, q < i := by
  intro io v i t h2
  rcases zf3 h2 with h2 | ⟨e3, e4⟩
  ·exact h.alt i t h2
  ·subst e3 e4; exact hanc
 have hloud : ∀ (io : Opr) (v : AV) (m l : Nat) (hs : List HS) (H' : HS), louds[m]? = some l → (∀ (k : Nat) (y : HS), (heaps ++ [H])[k]? = some y → (hs ++ [H'])[k]? = some y) → ∃ io' t H1 H2, (done ++ [io])[l]? = some io' ∧ (tr ++ [(⟨io.dst, v, zeq tr ps⟩ : Tr)])[l]? = some t ∧ (hs ++ [H'])[m]? = some H1 ∧ (hs ++ [H'])[m + 1]? = some H2 ∧
   zay (S.base (rf l) (tr ++ [(⟨io.dst, v, zeq tr ps⟩ : Tr)]) t.anc H1) io' = some true ∧ zgn P R (S.base (rf l) (tr ++ [(⟨io.dst, v, zeq tr ps⟩ : Tr)]) t.anc H1) io' = some (t.v, H2) := by
  intro io v m l hs H' hm hk
  obtain ⟨io', t, H1, H2, k1, k2, k3, k4, k5, k6⟩ := h.loud m l hm
  have hb : S.base (rf l) (tr ++ [(⟨io.dst, v, zeq tr ps⟩ : Tr)]) t.anc H1 = S.base (rf l) tr t.anc H1 := zkn fun p hp => by
   have := h.alt l t k2 p hp
   have := (y02.1 k2).1
   omega
  exact ⟨io', t, H1, H2, zf2 k1, zf2 k2, hk _ _ k3, hk _ _ k4, by rw [hb]; exact k5, by rw [hb]; exact k6⟩
 refine ⟨hanc, fun io v => ⟨by simp [h.l1], by simp [h.l2], h.l3, h.h0, hdst io v, hacyc, hanc2 io v, halt io v, fun l hl => by have := h.lob l hl; simp; omega, fun m l hm => hloud io v m l heaps H hm fun k y hy => hy⟩,
  fun io v H' hw hl => ⟨by simp [h.l1], by simp [h.l2], by simp [h.l3], zf2 h.h0, hdst io v, hacyc, hanc2 io v, halt io v, fun l hl => ?_, fun m l hm => ?_⟩⟩
 ·rw [List.mem_append] at hl
  rcases hl with hl | hl
  ·have := h.lob l hl; simp; omega
  ·simp at hl; subst hl; simp [h.l1]
 ·rcases zf3 hm with hm | ⟨e1, e2⟩
  ·exact hloud io v m l (heaps ++ [H]) H' hm fun k y hy => zf2 hy
  ·subst e1 e2
   have hb : S.base (rf tr.length) (tr ++ [(⟨io.dst, v, zeq tr ps⟩ : Tr)]) (zeq tr ps) H = S.base (rf tr.length) tr (zeq tr ps) H := zkn hanc
   refine ⟨io, ⟨io.dst, v, zeq tr ps⟩, H, H', by simp [h.l1], by simp, ?_, ?_, by rw [hb]; exact hw, by rw [hb]; exact hl⟩
   ·rw [← h.l3]; simp []
   ·rw [← h.l3]; simp []
theorem zjy {rf : Nat → TM} {D : DR} : ∀ {ios : List Opr} {pres : List (List Nat)} {done : List Opr} {dpres : List (List Nat)} {tr : List Tr} {louds : List Nat} {heaps : List HS} {H : HS}, Inv1 P E R S rf done dpres tr louds heaps H →
  znx P E R S rf ios pres tr louds heaps H = some D → ∃ hs Hn, D.heaps = hs ++ [Hn] ∧ Inv1 P E R S rf (done ++ ios) (dpres ++ pres) D.tr D.louds hs Hn
 | [], [], done, dpres, tr, louds, heaps, H, hI, h => by
  simp only [znx, y00] at h; subst h
  exact ⟨heaps, H, rfl, by simpa using hI⟩
 | io :: ios, ps :: pres, done, dpres, tr, louds, heaps, H, hI, h => by
  simp only [znx] at h
  split at h <;> try cases h
  rename_i hps
  obtain ⟨k1, k2, k3⟩ := hI.step (ps := ps) fun p hp => by simpa using y0f.1 hps p hp
  have e1 : done ++ io :: ios = (done ++ [io]) ++ ios := by simp
  have e2 : dpres ++ ps :: pres = (dpres ++ [ps]) ++ pres := by simp
  rw [e1, e2]
  split at h <;> try cases h
  ·exact zjy (k2 io _) h
  ·rename_i hw
   split at h
   ·exact zjy (k2 io _) h
   ·split at h <;> try cases h
    rename_i v H' hl
    exact zjy (k3 io v H' hw hl) h
 | [], _ :: _, _, _, _, _, _, _, _, h => by simp [znx] at h
 | _ :: _, [], _, _, _, _, _, _, _, h => by simp [znx] at h
end
end Go.Am
