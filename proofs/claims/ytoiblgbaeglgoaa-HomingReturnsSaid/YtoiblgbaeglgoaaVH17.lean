/-
  THE LAW OF HOMINGS: its walk.
-/
import Derived.Test.YtoiblgbaeglgoaaVH16
import Derived.Test.YtoiblgbaeglgoaaVT3d
namespace Go.Proofs.Ytoiblgbaeglgoaa
open Go Go.Am

def findC (l : List Ex) (e : List Bool) : Int :=
  if guardC l e.length = 0 then (if freeB l (posE e) then (if (levL l e.length).getD (idxE e) 0 < 0 then 6 else 0) else 22) else guardC l e.length

def findL (l : List Ex) (e : List Bool) : List Sk :=
  if guardC l e.length = 0 then (if freeB l (posE e) then (if (levL l e.length).getD (idxE e) 0 < 0 then [] else homeP l e.length (levL l e.length) ((levL l e.length).getD (idxE e) 0).toNat (idxE e)) else []) else []

theorem findV_eq (l : List Ex) (e : List Bool) : findV l e = .tup [.vs (cSs (findL l e)), .int .i64 (findC l e)] := by
  unfold findV findL findC
  repeat' split
  all_goals rfl

theorem awake36' : PF Try.prog 36 [] (.bool true) := tab36_ok _ (List.mem_cons_self ..) _ (List.mem_cons_self ..)

-- slices.Equal[[]pneumatic/api.Stroke,pneumatic/api.Stroke]
end Go.Proofs.Ytoiblgbaeglgoaa
