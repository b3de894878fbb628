/-
  DANGERS: the round over the positions of a step, in guard.Danger.
-/
import Derived.Test.YtoiblgbaeglgoaaWS14
namespace Go.Proofs.Ytoiblgbaeglgoaa
open Go Go.Am
structure I18 (D : Nat) (es : List Int) (ltm : List (Nat × AV)) (_ : Unit) (H : HS) : Prop where
 nx : D + 2 ≤ H.next
 h4 : Am.look (D + 1) H.heap = some (2, .loop .ready none 97 (zd5 ltm) [87] ca18_0 cb18_0 (D, 1))
 h3 : Am.look D H.heap = some (1, .deferred)
 r0 : Am.look 0 H.heap = some (0, .cells [.int .i64 0])
 r1 : Am.look 1 H.heap = some (0, .cells [.nils])
 r2 : Am.look 2 H.heap = some (0, .cells [.bool false])
 r3 : Am.look 3 H.heap = some (0, .cells [.int .i64 0])
 he : Am.look 4 H.heap = some (0, .cells (es.map (AV.int .i64)))
structure J18 (D i : Nat) (p : List Int) (H : HS) : Prop where
 nx : D + 2 ≤ H.next
 h4 : ∃ tm, Am.look (D + 1) H.heap = some (2, .loop .done (some .ret) 97 tm [87] ca18_0 cb18_0 (D, 1))
 h3 : Am.look D H.heap = some (1, .deferred)
 r0 : Am.look 0 H.heap = some (0, .cells [.int .i64 (i : Nat)])
 r1 : Am.look 1 H.heap = some (0, .cells [vsI p])
 r2 : Am.look 2 H.heap = some (0, .cells [.bool true])
 r3 : Am.look 3 H.heap = some (0, .cells [.int .i64 0])
end Go.Proofs.Ytoiblgbaeglgoaa
