/-
  THE LAW OF HOMINGS: its walk.
-/
import Derived.Test.YtoiblgbaeglgoaaYH16
import Derived.Test.YtoiblgbaeglgoaaYT3d
namespace Go.Proofs.Ytoiblgbaeglgoaa
open Go Go.Am

theorem awake36' : PF Try.prog 36 [] (.bool true) := tab36_ok _ (List.mem_cons_self ..) _ (List.mem_cons_self ..)

-- slices.Equal[[]pneumatic/api.Stroke,pneumatic/api.Stroke]
end Go.Proofs.Ytoiblgbaeglgoaa
