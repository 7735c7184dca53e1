/- Contract of slices.Clone at []byte: the copy is a new row that holds the same bytes. -/
import Derived.Test.YtbogfjadmiodkaaProg
import Derived.WalkKit
import Derived.WalkSpells
import Derived.Below
import Derived.OwnWalk
import Derived.BigFrame
import Derived.KernelRfl
import Derived.Outline
import Derived.Test.YtbogfjadmiodkaaWWords
namespace Go.Proofs.Ytbogfjadmiodkaa.Hand
open Go.RowKit Go.Proofs.YtbogfjadmiodkaaW.PrintWords

theorem info_u8 : (Try.prog.info? 5).map (fun i => (i.zero, i.size, i.bytes)) = some (some (.int .u8 0), 1, 1) := by kernel_rfl

def cloneF (l : List Int) : Option (List Int) := if l.length ≤ 140737488355328 then some l else none
end Go.Proofs.Ytbogfjadmiodkaa.Hand
