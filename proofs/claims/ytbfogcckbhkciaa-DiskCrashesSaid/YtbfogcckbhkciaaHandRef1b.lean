/- Contracts of the reference's functions of layer 1: Get, Sign, Fits, Pad, Set, Size. -/
import Derived.Test.YtbfogcckbhkciaaHandRef1
import Derived.Test.YtbfogcckbhkciaaHandNum
import Derived.Test.YtbfogcckbhkciaaHandSize
import Derived.Test.YtbfogcckbhkciaaHandSet
import Derived.Lib.Bytes
namespace Go.Proofs.Ytbfogcckbhkciaa.Hand
open Go.RowKit Go.Proofs.YtbfogcckbhkciaaW.PrintWords

set_option maxHeartbeats 1000000 in
theorem rGet_no (s : ByteArray) (at_ width : Int) (w : World) (h : (rightB width && insideB at_ width s.size) = false) :
    Calls Try.prog 116 #[.string s, .int .i64 at_, .int .i64 width] w fun e w' => e = .returned (.tuple #[.int .u64 0, .bool false]) ∧ w = w' := by
  cases hr : rightB width with
  | false =>
    have HR := Aside0.mk hr
    clear h hr
    go_enter Try.func116, Try.ntmps116
    go_wp2_with (go_at_call 120; refine (rRight_of _ HR.out).mono ?_; rintro e w' ⟨rfl, rfl⟩)
    go_ret2
    exact ⟨rfl, rfl⟩
  | true =>
    have hi : insideB at_ width s.size = false := by simpa [hr] using h
    have hw : width ≤ 8 := by rcases width_of hr with rfl | rfl | rfl | rfl <;> omega
    have HR := Aside0.mk hr
    clear h hr
    by_cases h0 : at_ < 0
    · clear hi
      go_enter Try.func116, Try.ntmps116
      go_wp2_with (go_at_call 120; refine (rRight_of _ HR.out).mono ?_; rintro e w' ⟨rfl, rfl⟩)
      go_ret2
      exact ⟨rfl, rfl⟩
    · by_cases h1 : at_ > (s.size : Int)
      · clear hi
        go_enter Try.func116, Try.ntmps116
        go_wp2_with (go_at_call 120; refine (rRight_of _ HR.out).mono ?_; rintro e w' ⟨rfl, rfl⟩)
        go_ret2
        exact ⟨rfl, rfl⟩
      · have h2 : (s.size : Int) - at_ < width := by
          have : ¬ (0 ≤ at_ ∧ at_ ≤ (s.size : Int) ∧ width ≤ (s.size : Int) - at_) := by
            intro hh
            rw [insideB, decide_eq_true hh.1, decide_eq_true hh.2.1, decide_eq_true hh.2.2] at hi
            exact absurd hi (by decide)
          omega
        clear hi
        go_enter Try.func116, Try.ntmps116
        go_wp2_with (go_at_call 120; refine (rRight_of _ HR.out).mono ?_; rintro e w' ⟨rfl, rfl⟩)
        go_ret2
        exact ⟨rfl, rfl⟩

theorem pow_le7 (j : Nat) (h : j ≤ 7) : (256 : Int) ^ j ≤ 72057594037927936 := by
  have h1 : 256 ^ j ≤ 256 ^ 7 := Nat.pow_le_pow_right (by omega) h
  have h2 : (256 : Int) ^ j = ((256 ^ j : Nat) : Int) := (Int.natCast_pow 256 j).symm
  have h3 : (256 : Nat) ^ 7 = 72057594037927936 := by decide
  omega
theorem inside_of {at_ width : Int} {n : Nat} (h : (rightB width && insideB at_ width n) = true) : ∃ a m : Nat, at_ = a ∧ width = m ∧ 0 < m ∧ m ≤ 8 ∧ a + m ≤ n := by
  have hii : rightB width = true ∧ 0 ≤ at_ ∧ at_ ≤ n ∧ width ≤ n - at_ := by
    simpa only [insideB, Bool.and_eq_true, decide_eq_true_eq] using h
  obtain ⟨hr, h0, h1, h2⟩ := hii
  have hw : 0 < width ∧ width ≤ 8 := by
    rcases width_of hr with rfl | rfl | rfl | rfl <;> omega
  exact ⟨at_.toNat, width.toNat, by omega, by omega, by omega, by omega, by omega⟩

set_option maxHeartbeats 1000000 in
theorem rGet_yes (s : ByteArray) (at_ width : Int) (w : World) (hs : s.size ≤ 140737488355328) (h : (rightB width && insideB at_ width s.size) = true) :
    Calls Try.prog 116 #[.string s, .int .i64 at_, .int .i64 width] w fun e w' => e = .returned (.tuple #[.int .u64 (numL (cut (bytesOf s) at_.toNat width.toNat)), .bool true]) ∧ w = w' := by
  obtain ⟨a, m, rfl, rfl, hm0, hm8, ham⟩ := inside_of h
  have HR := Aside0.mk (show rightB m = true by simpa using (Bool.and_eq_true_iff.1 h).1)
  have HH := Aside0.mk (fun j => hiN_range (bytesOf_bys s) a m j)
  have h1 : ¬ ((a : Int) > (s.size : Int)) := by omega
  have h2 : ¬ ((s.size : Int) - (a : Int) < (m : Int)) := by omega
  clear h
  go_enter Try.func116, Try.ntmps116
  go_wp2_with (go_at_call 120; refine (rRight_of _ HR.out).mono ?_; rintro e w' ⟨rfl, rfl⟩)
  go_loop [8, 9] (fun vn i => ∃ (j : Nat) (q : Int), j ≤ m ∧ i = .int .i64 ((m : Int) - 1 - j) ∧ vn = .int .u64 q ∧ Aside0 (q = hiN (bytesOf s) a m j)) (fun _ i => (intOf i + 1).toNat)
  case atStart => exact ⟨0, 0, Nat.zero_le _, by go_num, rfl, ⟨rfl⟩⟩
  case round =>
    obtain ⟨j, q, hj, rfl, rfl, hq⟩ := hrel
    by_cases hlt : j < m
    · have hq0 : 0 ≤ q ∧ q * 256 + 256 ≤ 18446744073709551616 := by
        have := HH.out j
        rw [← hq.out] at this
        have hp := pow_le7 j (by omega)
        omega
      obtain ⟨hq0, hq1⟩ := hq0
      have hb := bt_at s (a + ((m : Int) - 1 - j))
      have hb2 := bt_range s (a + ((m : Int) - 1 - j))
      obtain ⟨hb2, hb3⟩ := hb2
      have HS := Aside0.mk (show hiN (bytesOf s) a m (j + 1) = q * 256 + bt s (a + ((m : Int) - 1 - j)) by rw [hiN, hq.out, rd_bytesOf])
      go_wp2
      go_round
      case rel => exact ⟨j + 1, _, by omega, by go_num, rfl, ⟨HS.out.symm⟩⟩
      case measure => simp [intOf]; omega
    · obtain rfl : j = m := by omega
      have HE := Aside0.mk (hiN_eq (l := bytesOf s) a j j (Nat.le_refl _) (by rw [bytesOf_length]; exact ham))
      go_wp2
      go_ret2
      exact ⟨by rw [hq.out, HE.out]; simp, rfl⟩

def rsignN (n width : Int) : Int :=
  if rightB width then
    let low := if width < 8 then n % (topN width + 1) else n
    if low ≤ topN width / 2 then low else IntKind.u64.wrap (IntKind.u64.wrap (low - topN width) + 18446744073709551615)
  else n
set_option maxHeartbeats 1000000 in
theorem rPad_calls (l : List Int) (w : World) (hl : l.length + 8 ≤ 140737488355328) :
    Calls Try.prog 104 #[.string (strOfNums l)] w fun e w' => e = .returned (.string (strOfNums (padL l))) ∧ w = w' := by
  go_enter Try.func104, Try.ntmps104
  go_wp2
  go_loopg [0] ((8 - l.length % 8) % 8) (fun gk v wr => ∃ j : Nat, j + gk = (8 - l.length % 8) % 8 ∧ v = .string (strOfNums (l ++ List.replicate j 0)) ∧ w = wr)
  case atStart => exact ⟨0, by omega, by simp, rfl⟩
  case round =>
    obtain ⟨j, hj, rfl, rfl⟩ := hrel
    have hz : (strOfNums (l ++ List.replicate j 0)).size = l.length + j := by rw [strOfNums_size]; simp
    obtain ⟨t, ht⟩ : ∃ t, t = strOfNums (l ++ List.replicate j 0) := ⟨_, rfl⟩
    rw [← ht] at hz ⊢
    have HT := Aside0.mk ht
    clear ht
    cases gk with
    | succ gk =>
      have hm : 0 < (l.length + j) % 8 := by omega
      go_wp2
      go_roundg gk
      case measure => omega
      case rel => exact ⟨j + 1, by omega, by rw [HT.out, List.replicate_succ', ← List.append_assoc, ← str_app (l ++ List.replicate j 0)]; rfl, rfl⟩
    | zero =>
      have hm : (l.length + j) % 8 = 0 := by omega
      have hj2 : j = (8 - l.length % 8) % 8 := by omega
      have HE := Aside0.mk hj2
      clear hj hj2
      go_wp2
      go_ret
      exact ⟨by rw [padL, ← HE.out, ← HT.out]; rfl, rfl⟩

theorem str_ne {l : List Int} (h : l ≠ []) : (strOfNums l).toList.isEmpty = false := by
  rw [Lib.strOfNums_toList]
  cases l with
  | nil => exact absurd rfl h
  | cons x l => rfl
end Go.Proofs.Ytbfogcckbhkciaa.Hand
