/- Contracts of word.Get, its closure, word.right and slices.Clone at []byte: what each call answers, and that nothing that was there is changed. -/
import Derived.Test.YtjmmafonidgimaaProg
import Derived.WalkKit
import Derived.Below
import Derived.OwnWalk
import Derived.BigQuiet
import Derived.BigFrame
import Derived.KernelRfl
import Derived.LoopTactic
import Derived.Lib.Hide
import Derived.Outline
import Derived.Test.YtjmmafonidgimaaWWords
namespace Go.Proofs.Ytjmmafonidgimaa.Hand
open Go.RowKit Go.Proofs.YtjmmafonidgimaaW.PrintWords

def rightB (a : Int) : Bool := a == 1 || (a == 2 || (a == 4 || a == 8))
theorem right_calls (a : Int) (w : World) : Calls Try.prog 26 #[.int .i64 a] w fun e w' => e = .returned (.bool (rightB a)) ∧ w = w' := by
  by_cases h1 : a = 1
  · go_enter Try.func26, Try.ntmps26
    go_wp2
    go_ret
    exact ⟨by simp [rightB, h1], rfl⟩
  · by_cases h2 : a = 2
    · go_enter Try.func26, Try.ntmps26
      go_wp2
      go_ret
      exact ⟨by simp [rightB, h2], rfl⟩
    · by_cases h3 : a = 4
      · go_enter Try.func26, Try.ntmps26
        go_wp2
        go_ret
        exact ⟨by simp [rightB, h3], rfl⟩
      · go_enter Try.func26, Try.ntmps26
        go_wp2
        go_ret
        exact ⟨by rw [rightB, beq_false_of_ne h1, beq_false_of_ne h2, beq_false_of_ne h3]; rfl, rfl⟩

def insideB (at_ width : Int) (n : Nat) : Bool := decide (0 ≤ at_) && (decide (at_ ≤ n) && decide (width ≤ n - at_))
/-- The number in the first k bytes from at_ on, as the loop reckons it. -/
def getN (l : List Int) (at_ : Int) : Nat → Int
  | 0 => 0
  | k + 1 => bits .or .u64 (getN l at_ k) (IntKind.u64.wrap (IntKind.u64.wrap (rd l (at_ + k)) * 2 ^ (8 * k)))
def getF (l : List Int) (at_ width : Int) : Option (Int × Bool) :=
  if ¬ l.length ≤ 140737488355328 then none else if rightB width && insideB at_ width l.length then some (getN l at_ width.toNat, true) else some (0, false)

end Go.Proofs.Ytjmmafonidgimaa.Hand
