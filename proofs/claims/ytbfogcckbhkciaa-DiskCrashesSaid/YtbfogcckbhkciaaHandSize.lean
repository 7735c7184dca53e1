/- Contract of word.Size. -/
import Derived.Test.YtbfogcckbhkciaaProg
import Derived.WalkKit
import Derived.BigFrame
import Derived.KernelRfl
import Derived.Outline
namespace Go.Proofs.Ytbfogcckbhkciaa.Hand
open Go.RowKit
def sizeN (k : Int) : Int := if k = 4 ∨ k = 8 ∨ k = 10 ∨ k = 11 then 8 else if k = 3 ∨ k = 7 then 4 else if k = 2 ∨ k = 6 then 2 else if k = 1 ∨ k = 5 ∨ k = 9 then 1 else 0
end Go.Proofs.Ytbfogcckbhkciaa.Hand
