/- Signs and fits: the program's ways and the reference's are one. -/
import Derived.Test.YtbfogcckbhkciaaHandRef1b
namespace Go.Proofs.Ytbfogcckbhkciaa.Hand
open Go.RowKit Go.Proofs.YtbfogcckbhkciaaW.PrintWords

theorem u64_wrap (x : Int) : IntKind.u64.wrap x = x % 18446744073709551616 := by simp [IntKind.wrap, IntKind.signed, IntKind.bits]
theorem sN1 (n : Int) : signN n 1 = ((n * 72057594037927936 % 18446744073709551616 + 9223372036854775808) % 18446744073709551616 - 9223372036854775808) / 72057594037927936 % 18446744073709551616 := by
  show IntKind.u64.wrap _ = _
  simp only [u64_wrap, wrap64]
theorem rN1 (n : Int) : rsignN n 1 = if n % 256 ≤ 127 then n % 256 else ((n % 256 - 255) % 18446744073709551616 + 18446744073709551615) % 18446744073709551616 := by
  show (if _ then _ else IntKind.u64.wrap (IntKind.u64.wrap _ + _)) = _
  simp only [u64_wrap]
  rfl
theorem one1 (n : Int) : signN n 1 = rsignN n 1 := by
  rw [sN1, rN1]
  split
  all_goals omega
theorem twice1 (n : Int) : signN (signN n 1) 1 = signN n 1 := by
  rw [sN1, sN1]
  omega
theorem fit1 (n : Int) (h0 : 0 ≤ n) (h1 : n < 18446744073709551616) : fitsB n 1 = decide (n ≤ 255) := by
  show (true && (1 == (8 : Int) || n / 256 == 0)) = _
  rw [Bool.true_and, show (1 == (8 : Int)) = false from rfl, Bool.false_or]
  rw [Bool.eq_iff_iff]
  simp only [beq_iff_eq, decide_eq_true_eq]
  omega
theorem sN2 (n : Int) : signN n 2 = ((n * 281474976710656 % 18446744073709551616 + 9223372036854775808) % 18446744073709551616 - 9223372036854775808) / 281474976710656 % 18446744073709551616 := by
  show IntKind.u64.wrap _ = _
  simp only [u64_wrap, wrap64]
theorem rN2 (n : Int) : rsignN n 2 = if n % 65536 ≤ 32767 then n % 65536 else ((n % 65536 - 65535) % 18446744073709551616 + 18446744073709551615) % 18446744073709551616 := by
  show (if _ then _ else IntKind.u64.wrap (IntKind.u64.wrap _ + _)) = _
  simp only [u64_wrap]
  rfl
theorem one2 (n : Int) : signN n 2 = rsignN n 2 := by
  rw [sN2, rN2]
  split
  all_goals omega
theorem twice2 (n : Int) : signN (signN n 2) 2 = signN n 2 := by
  rw [sN2, sN2]
  omega
theorem fit2 (n : Int) (h0 : 0 ≤ n) (h1 : n < 18446744073709551616) : fitsB n 2 = decide (n ≤ 65535) := by
  show (true && (2 == (8 : Int) || n / 65536 == 0)) = _
  rw [Bool.true_and, show (2 == (8 : Int)) = false from rfl, Bool.false_or]
  rw [Bool.eq_iff_iff]
  simp only [beq_iff_eq, decide_eq_true_eq]
  omega
theorem sN4 (n : Int) : signN n 4 = ((n * 4294967296 % 18446744073709551616 + 9223372036854775808) % 18446744073709551616 - 9223372036854775808) / 4294967296 % 18446744073709551616 := by
  show IntKind.u64.wrap _ = _
  simp only [u64_wrap, wrap64]
theorem rN4 (n : Int) : rsignN n 4 = if n % 4294967296 ≤ 2147483647 then n % 4294967296 else ((n % 4294967296 - 4294967295) % 18446744073709551616 + 18446744073709551615) % 18446744073709551616 := by
  show (if _ then _ else IntKind.u64.wrap (IntKind.u64.wrap _ + _)) = _
  simp only [u64_wrap]
  rfl
theorem one4 (n : Int) : signN n 4 = rsignN n 4 := by
  rw [sN4, rN4]
  split
  all_goals omega
theorem twice4 (n : Int) : signN (signN n 4) 4 = signN n 4 := by
  rw [sN4, sN4]
  omega
theorem fit4 (n : Int) (h0 : 0 ≤ n) (h1 : n < 18446744073709551616) : fitsB n 4 = decide (n ≤ 4294967295) := by
  show (true && (4 == (8 : Int) || n / 4294967296 == 0)) = _
  rw [Bool.true_and, show (4 == (8 : Int)) = false from rfl, Bool.false_or]
  rw [Bool.eq_iff_iff]
  simp only [beq_iff_eq, decide_eq_true_eq]
  omega
theorem sN8 (n : Int) : signN n 8 = ((n % 18446744073709551616 + 9223372036854775808) % 18446744073709551616 - 9223372036854775808) % 18446744073709551616 := by
  show IntKind.u64.wrap _ = _
  simp only [u64_wrap, wrap64]
theorem rN8 (n : Int) : rsignN n 8 = if n ≤ 9223372036854775807 then n else ((n - 18446744073709551615) % 18446744073709551616 + 18446744073709551615) % 18446744073709551616 := by
  show (if _ then _ else IntKind.u64.wrap (IntKind.u64.wrap _ + _)) = _
  simp only [u64_wrap]
  rfl
theorem one8 (n : Int) (h0 : 0 ≤ n) (h1 : n < 18446744073709551616) : signN n 8 = rsignN n 8 := by
  rw [sN8, rN8]
  split
  all_goals omega
theorem twice8 (n : Int) : signN (signN n 8) 8 = signN n 8 := by
  rw [sN8, sN8]
  omega
theorem fit8 (n : Int) (h0 : 0 ≤ n) (h1 : n < 18446744073709551616) : fitsB n 8 = decide (n ≤ 18446744073709551615) := by
  show (true && (8 == (8 : Int) || n / 18446744073709551616 == 0)) = _
  rw [Bool.true_and, show ((8 : Int) == 8) = true from rfl, Bool.true_or]
  exact (decide_eq_true (by omega)).symm
theorem sign_one (n width : Int) (h0 : 0 ≤ n) (h1 : n < 18446744073709551616) : signN n width = rsignN n width := by
  cases hr : rightB width with
  | false => rw [signN_no hr, rsignN, hr]; rfl
  | true =>
    rcases width_of hr with rfl | rfl | rfl | rfl
    · exact one1 n
    · exact one2 n
    · exact one4 n
    · exact one8 n h0 h1
theorem sign_twice (n width : Int) : signN (signN n width) width = signN n width := by
  cases hr : rightB width with
  | false => rw [signN_no hr, signN_no hr]
  | true =>
    rcases width_of hr with rfl | rfl | rfl | rfl
    · exact twice1 n
    · exact twice2 n
    · exact twice4 n
    · exact twice8 n
theorem fits_one (n width : Int) (h0 : 0 ≤ n) (h1 : n < 18446744073709551616) : fitsB n width = rfitsB n width := by
  cases hr : rightB width with
  | false => rw [fitsB, rfitsB, hr]; rfl
  | true =>
    rcases width_of hr with rfl | rfl | rfl | rfl
    · exact fit1 n h0 h1
    · exact fit2 n h0 h1
    · exact fit4 n h0 h1
    · exact fit8 n h0 h1

end Go.Proofs.Ytbfogcckbhkciaa.Hand
