/- Chapter 19's example. -/
import Derived.Test.YtmldhgebbgalbaaQ2
namespace Go.Proofs.Ytmldhgebbgalbaa
set_option linter.unusedVariables false
set_option linter.unusedSimpArgs false
open Go.RowKit

def litC : List Cel := [⟨0, false, true, 0, 0⟩, ⟨193, false, false, 0, 0⟩, ⟨32, false, true, 0, 0⟩, ⟨0, false, true, 0, 0⟩, ⟨194, false, false, 0, 0⟩, ⟨195, false, false, 0, 0⟩]
def litP (k : Int) : Pl := ⟨2, 3, litC, k⟩
end Go.Proofs.Ytmldhgebbgalbaa
