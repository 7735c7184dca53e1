/- Contracts of the reference's functions of layer 1: Get, Sign, Fits, Pad, Set, Size. -/
import Derived.Test.YtjmmafonidgimaaHandRef1
import Derived.Test.YtjmmafonidgimaaHandNum
import Derived.Test.YtjmmafonidgimaaHandSize
import Derived.Test.YtjmmafonidgimaaHandSet
import Derived.Lib.Bytes
namespace Go.Proofs.Ytjmmafonidgimaa.Hand
open Go.RowKit Go.Proofs.YtjmmafonidgimaaW.PrintWords

theorem pow_le7 (j : Nat) (h : j ≤ 7) : (256 : Int) ^ j ≤ 72057594037927936 := by
  have h1 : 256 ^ j ≤ 256 ^ 7 := Nat.pow_le_pow_right (by omega) h
  have h2 : (256 : Int) ^ j = ((256 ^ j : Nat) : Int) := (Int.natCast_pow 256 j).symm
  have h3 : (256 : Nat) ^ 7 = 72057594037927936 := by decide
  omega
theorem inside_of {at_ width : Int} {n : Nat} (h : (rightB width && insideB at_ width n) = true) : ∃ a m : Nat, at_ = a ∧ width = m ∧ 0 < m ∧ m ≤ 8 ∧ a + m ≤ n := by
  have hii : rightB width = true ∧ 0 ≤ at_ ∧ at_ ≤ n ∧ width ≤ n - at_ := by
    simpa only [insideB, Bool.and_eq_true, decide_eq_true_eq] using h
  obtain ⟨hr, h0, h1, h2⟩ := hii
  have hw : 0 < width ∧ width ≤ 8 := by
    rcases width_of hr with rfl | rfl | rfl | rfl <;> omega
  exact ⟨at_.toNat, width.toNat, by omega, by omega, by omega, by omega, by omega⟩

def rsignN (n width : Int) : Int :=
  if rightB width then
    let low := if width < 8 then n % (topN width + 1) else n
    if low ≤ topN width / 2 then low else IntKind.u64.wrap (IntKind.u64.wrap (low - topN width) + 18446744073709551615)
  else n
theorem str_ne {l : List Int} (h : l ≠ []) : (strOfNums l).toList.isEmpty = false := by
  rw [Lib.strOfNums_toList]
  cases l with
  | nil => exact absurd rfl h
  | cons x l => rfl
end Go.Proofs.Ytjmmafonidgimaa.Hand
