/-
  THE PORTS OF THE KINDS, AND WHAT THE LAW IS ASKED.
-/
import Derived.Test.YtclefndccgmolaaDoorR2
import Derived.KernelRfl
import Derived.Test.YtclefndccgmolaaDoorChecked
namespace Go.Proofs.YtclefndccgmolaaDoor
open Go Go.Am

theorem tabR_ok : TabOk Tryd.prog (tabA ++ (tabR23 ++ (tabR25 ++ (tabR31 ++ tabR33)))) := tabA_ok.append (tabR23_ok.append (tabR25_ok.append (tabR31_ok.append tabR33_ok)))

/-- The names of a kind's ports. -/
def portsOf (k : Nat) : List (List UInt8) := ([[[49]],
  [[50], [52]],
  [[49], [49, 50], [49, 52], [50], [51], [52], [53]],
  [[49], [49, 52], [50], [51], [52], [53]],
  [[49], [49, 50], [50], [51]],
  [[49], [49, 48], [50], [51]],
  [[49], [50], [51]],
  [[49], [50], [51]],
  [[49], [49, 49], [50]],
  [[49], [49, 49], [50]],
  [[49], [50], [51]],
  [[49], [50]],
  [[49], [49, 50], [50], [51]],
  [[49], [49, 50], [50], [51]]] : List (List (List UInt8))).getD k []

def portArgs (k : Nat) : List AV := (portsOf k).map .str ++ [.strA (portsOf k) 0 9223372036854775807]

/-- The bytes that leave a rest. -/
def residue (m c : Nat) : List Int := ((List.range 256).filter fun n => Nat.beq (n % m) c).map fun (n : Nat) => (n : Int)

def readsRow (k m : Nat) : List (List AV × AV) := (portArgs k).map fun p => ([.ints .u8 (residue 14 k), .ints .u8 (residue 14 m), p], .bool true)

def tabReads (k : Nat) : Tab := [(9, (List.range 14).flatMap (readsRow k))]

end Go.Proofs.YtclefndccgmolaaDoor
