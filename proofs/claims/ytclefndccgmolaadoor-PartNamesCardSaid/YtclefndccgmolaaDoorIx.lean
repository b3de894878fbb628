/-
  WHAT strings.IndexByte DOES in this program: the shelf's contracts, laid by its contract.sh, and the same as a known call.
-/
import Derived.Test.YtclefndccgmolaaDoorChecked
import Derived.Lib.Strings
import Derived.Lib.Slices
import Derived.Lib.Walk
import Derived.Lib.Bytealg
import Derived.Lib.SmallJoins
import Derived.Test.YtclefndccgmolaaDoorT1
import Derived.Test.YtclefndccgmolaaDoorAmWp2
namespace Go.Proofs

set_option maxHeartbeats 1000000 in
set_option maxRecDepth 100000 in
/-- internal/stringslite.IndexByte (what strings.IndexByte calls): IT RETURNS 'Lib.indexByte s c'; the world is as it was. -/
theorem Tryd.stringslite_IndexByte (s : ByteArray) (c : Int) (w : World) :
    Calls Tryd.prog 95 #[.string s, .int .u8 c] w fun e w' => e = .returned (.int .i64 (Lib.indexByte s.data.toList c.toNat.toUInt8)) ∧ w' = w := by
  go_enter Tryd.func95, Tryd.ntmps95
  go_wp2
  rw [run_callFunc_extern Tryd.func101 (by kernel_rfl) (by kernel_rfl) (by kernel_rfl) (e := Extern.BytealgIndexByte.indexByte) (by kernel_rfl), Lib.run_indexByteString]
  simp only [Result.andThen]
  rw [Oper.upon_value]
  go_wp2
  go_ret
  exact ⟨rfl, rfl⟩


set_option maxHeartbeats 1000000 in
/-- strings.IndexByte: "IndexByte returns the index of the first instance of c in s, or -1 if c is not present in s.": IT RETURNS 'Lib.indexByte s c'; the world is as it was. -/
theorem Tryd.strings_IndexByte (s : ByteArray) (c : Int) (w : World) :
    Calls Tryd.prog 83 #[.string s, .int .u8 c] w fun e w' => e = .returned (.int .i64 (Lib.indexByte s.data.toList c.toNat.toUInt8)) ∧ w' = w := by
  go_enter Tryd.func83, Tryd.ntmps83
  go_wp2_with (go_at_call 95; refine (Tryd.stringslite_IndexByte _ _ _).mono ?_; rintro e w' ⟨rfl, rfl⟩)
  go_ret
  exact ⟨rfl, rfl⟩


namespace YtclefndccgmolaaDoor
open Go Go.Am Go.RowKit

theorem ent83 : Ent Tryd.prog 83 := ent_of Tryd.func83 rfl (by kernel_rfl)

theorem pf83 (s : List UInt8) (c : Int) : PF Tryd.prog 83 [.str s, .int .u8 c] (.int .i64 (Lib.indexByte s c.toNat.toUInt8)) := by
  refine ⟨ent83, fun ro w us hg hc => ?_⟩
  obtain ⟨hl, hr⟩ := hc
  obtain ⟨u0, u1, rfl⟩ := Joins.array2 hl
  have h0 := hr 0 _ rfl
  have h1 := hr 1 _ rfl
  simp only [Array.getD_eq_getD_getElem?] at h0 h1
  generalize he0 : ((#[u0, u1] : Array Value)[0]?).getD undef = x0 at h0
  generalize he1 : ((#[u0, u1] : Array Value)[1]?).getD undef = x1 at h1
  cases h0; cases h1
  simp at he0 he1
  subst he0 he1
  exact (Tryd.strings_IndexByte _ _ _).mono fun e w' ⟨h1, h2⟩ => by subst h1 h2; exact ⟨_, rfl, Below.refl _ _, .int⟩

/-- What the class of a byte is. -/
def letterN (n : Nat) : Bool := (Nat.ble 97 n && Nat.ble n 122) || (Nat.ble 65 n && Nat.ble n 90)
def innerN (n : Nat) : Bool := letterN n || (Nat.ble 48 n && Nat.ble n 57) || Nat.beq n 95
def signs : List UInt8 := [43, 45, 42, 47, 40, 41, 91, 93, 123, 125, 60, 62, 61, 44, 59, 58, 124, 38, 33, 35, 46]
def classN (n : Nat) : Int := if letterN n then 1 else if Nat.ble 48 n && Nat.ble n 57 then 2 else if Nat.beq n 95 then 3 else if Nat.beq n 32 || Nat.beq n 10 then 5 else if 0 ≤ Lib.indexByte signs (Int.toNat n).toUInt8 then 4 else 0

def orc83 (f : FuncId) (args : List AV) : Option AV := match args with
  | [.str s, .int .u8 c] => if Nat.beq f 83 then some (.int .i64 (Lib.indexByte s c.toNat.toUInt8)) else none
  | _ => none

theorem orc83_ok (f : FuncId) (args : List AV) (v : AV) (h : orc83 f args = some v) : PF Tryd.prog f args v := by
  unfold orc83 at h
  split at h
  · split at h
    · rename_i s c hf
      have : f = 83 := Nat.eq_of_beq_eq_true hf
      subst this
      simp only [Option.some.injEq] at h; subst h
      exact pf83 _ _
    · cases h
  · cases h

theorem env83_ok : EnvOk Tryd.prog (env0.ask orc83 fun f => Nat.beq f 83) := env0_ok.ask orc83_ok

def bytes256 (f : Nat → AV) : List (List AV × AV) := (List.range 256).map fun (n : Nat) => ([.int .u8 (n : Int)], f n)

def tab69 : Tab := [(69, bytes256 fun n => .int .i64 (classN n))]
theorem tab69_ok : TabOk Tryd.prog tab69 := TabOk.of_run env83_ok (n := 60) (by kernel_rfl)
def tab71 : Tab := [(71, bytes256 fun n => .bool (letterN n))]
theorem tab71_ok : TabOk Tryd.prog tab71 := TabOk.of_run env0_ok (n := 60) (by kernel_rfl)
def tab72 : Tab := [(72, bytes256 fun n => .bool (innerN n))]
theorem tab72_ok : TabOk Tryd.prog tab72 := TabOk.of_run env0_ok (n := 60) (by kernel_rfl)

theorem of_bytes {g : FuncId} {f : Nat → AV} (h : TabOk Tryd.prog [(g, bytes256 f)]) (b : UInt8) : PF Tryd.prog g [.int .u8 b.toNat] (f b.toNat) :=
  h _ (List.mem_singleton.2 rfl) (_, _) (List.mem_map.2 ⟨b.toNat, List.mem_range.2 b.toNat_lt, rfl⟩)

end YtclefndccgmolaaDoor
end Go.Proofs
