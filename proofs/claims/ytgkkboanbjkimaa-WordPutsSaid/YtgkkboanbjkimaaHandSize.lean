/- Contract of word.Size. -/
import Derived.Test.YtgkkboanbjkimaaProg
import Derived.WalkKit
import Derived.BigFrame
import Derived.KernelRfl
import Derived.Outline
namespace Go.Proofs.Ytgkkboanbjkimaa.Hand
open Go.RowKit
def sizeN (k : Int) : Int := if k = 4 ∨ k = 8 ∨ k = 10 ∨ k = 11 then 8 else if k = 3 ∨ k = 7 then 4 else if k = 2 ∨ k = 6 then 2 else if k = 1 ∨ k = 5 ∨ k = 9 then 1 else 0
theorem size_calls (k : Int) (w : World) : Calls Try.prog 23 #[.int .i64 k] w fun e w' => e = .returned (.int .i64 (sizeN k)) ∧ w = w' := by
  go_enter Try.func23, Try.ntmps23
  go_wp2
  all_goals
    go_ret
    refine ⟨?_, rfl⟩
    show Ending.returned (.int .i64 _) = _
    congr 2
    unfold sizeN
    simp only [beq_iff_eq, beq_eq_false_iff_ne] at *
    simp_all
end Go.Proofs.Ytgkkboanbjkimaa.Hand
