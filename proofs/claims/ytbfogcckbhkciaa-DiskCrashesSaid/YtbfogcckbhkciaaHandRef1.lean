/- Contracts of the reference's functions of layer 1. -/
import Derived.Test.YtbfogcckbhkciaaHandPut
import Derived.Handy
import Derived.Lib.ConvBytes
namespace Go.Proofs.Ytbfogcckbhkciaa.Hand
open Go.RowKit Go.Proofs.YtbfogcckbhkciaaW.PrintWords

theorem rRight_calls (a : Int) (w : World) : Calls Try.prog 120 #[.int .i64 a] w fun e w' => e = .returned (.bool (rightB a)) ∧ w = w' := by
  by_cases h1 : a = 1
  · go_enter Try.func120, Try.ntmps120
    go_wp2
    go_ret
    exact ⟨by simp [rightB, h1], rfl⟩
  · by_cases h2 : a = 2
    · go_enter Try.func120, Try.ntmps120
      go_wp2
      go_ret
      exact ⟨by simp [rightB, h2], rfl⟩
    · by_cases h3 : a = 4
      · go_enter Try.func120, Try.ntmps120
        go_wp2
        go_ret
        exact ⟨by simp [rightB, h3], rfl⟩
      · go_enter Try.func120, Try.ntmps120
        go_wp2
        go_ret
        exact ⟨by rw [rightB, beq_false_of_ne h1, beq_false_of_ne h2, beq_false_of_ne h3]; rfl, rfl⟩
theorem rRight_of (w : World) {a : Int} {b : Bool} (h : rightB a = b) : Calls Try.prog 120 #[.int .i64 a] w fun e w' => e = .returned (.bool b) ∧ w = w' := (rRight_calls a w).mono fun e w' he => ⟨by rw [he.1, h], he.2⟩

def topN (width : Int) : Int := if width = 1 then 255 else if width = 2 then 65535 else if width = 4 then 4294967295 else 18446744073709551615
set_option maxHeartbeats 1000000 in
theorem rTop_calls (width : Int) (h : rightB width = true) (w : World) : Calls Try.prog 121 #[.int .i64 width] w fun e w' => e = .returned (.int .u64 (topN width)) ∧ w = w' := by
  rcases width_of h with rfl | rfl | rfl | rfl
  all_goals
    clear h
    go_enter Try.func121, Try.ntmps121
    go_wp2
    go_rounds 9
    go_ret
    exact ⟨rfl, rfl⟩

theorem str_app (a b : List Int) : strOfNums a ++ strOfNums b = strOfNums (a ++ b) := by
  apply ByteArray.ext
  rw [ByteArray.data_append]
  simp [strOfNums]

def rfitsB (n width : Int) : Bool := rightB width && decide (n ≤ topN width)
theorem rPut_no (width n : Int) (w : World) (h : rfitsB n width = false) : Calls Try.prog 82 #[.int .i64 width, .int .u64 n] w fun e w' => e = .returned (.string ByteArray.empty) ∧ w = w' := by
  cases hr : rightB width with
  | false =>
    go_enter Try.func82, Try.ntmps82
    go_wp2_with (go_at_call 120; refine (rRight_of _ hr).mono ?_; rintro e w' ⟨rfl, rfl⟩)
    go_ret
    exact ⟨rfl, rfl⟩
  | true =>
    have ht : topN width < n := by
      simpa [rfitsB, hr] using h
    have HR := Aside0.mk hr
    clear h hr
    go_enter Try.func82, Try.ntmps82
    go_wp2_with (first | (go_at_call 120; refine (rRight_of _ HR.out).mono ?_; rintro e w' ⟨rfl, rfl⟩) | (go_at_call 121; refine (rTop_calls width HR.out _).mono ?_; rintro e w' ⟨rfl, rfl⟩))
    go_ret
    exact ⟨rfl, rfl⟩

set_option maxHeartbeats 1000000 in
theorem rPut_yes (width n : Int) (w : World) (h : rfitsB n width = true) (hn : 0 ≤ n) : Calls Try.prog 82 #[.int .i64 width, .int .u64 n] w fun e w' => e = .returned (.string (strOfNums (leB n width.toNat))) ∧ Below w.heap.size w w' := by
  obtain ⟨hr, ht⟩ : rightB width = true ∧ n ≤ topN width := by simpa [rfitsB] using h
  have hw : 0 < width ∧ width ≤ 8 := by
    rcases width_of hr with rfl | rfl | rfl | rfl <;> omega
  have hm : n ≤ 18446744073709551615 := by
    refine Int.le_trans ht ?_
    unfold topN
    repeat' split
    all_goals omega
  obtain ⟨hw0, hw8⟩ := hw
  have HR := Aside0.mk hr
  clear h hr
  have hq : ∀ k : Nat, 0 ≤ n / 2 ^ (8 * k) ∧ n / 2 ^ (8 * k) ≤ 18446744073709551615 := fun k => by
    have h2 : (0 : Int) < 2 ^ (8 * k) := Int.pow_pos (by omega)
    exact ⟨Int.ediv_nonneg hn (by omega), Int.le_trans (Int.ediv_le_self _ hn) hm⟩
  have HQ := Aside0.mk hq
  clear hq hm
  go_enter Try.func82, Try.ntmps82
  go_wp2_with (first | (go_at_call 120; refine (rRight_of _ HR.out).mono ?_; rintro e w' ⟨rfl, rfl⟩) | (go_at_call 121; refine (rTop_calls width HR.out _).mono ?_; rintro e w' ⟨rfl, rfl⟩))
  clear ht
  go_loopw [1, 5, 6] (fun vn vs i wr => ∃ (k : Nat) (q : Int), k ≤ width.toNat ∧ i = .int .i64 k ∧ vn = .int .u64 q ∧ Aside0 (q = n / 2 ^ (8 * k)) ∧ vs = .string (strOfNums (leB n k)) ∧ Below w.heap.size w wr) (fun _ _ i _ => width.toNat - (intOf i).toNat)
  case atStart => exact ⟨0, n, Nat.zero_le _, rfl, rfl, ⟨by simp⟩, rfl, Below.refl _ _⟩
  case round =>
    obtain ⟨k, q, hk, rfl, rfl, hq, rfl, hb⟩ := hrel
    have hq0 : 0 ≤ q ∧ q ≤ 18446744073709551615 := hq.out ▸ HQ.out k
    obtain ⟨hq0, hq1⟩ := hq0
    have HB := Aside0.mk hb
    clear hb
    by_cases hlt : (k : Int) < width
    · have hconv := run_convert_bytes_arg (P := Try.prog) (wr.alloc (.cells #[.int .u8 (q % 256)] 5)) 23 5 Try.underlying23 Try.underlying5 wr.heap.size 0 1 1 [q % 256] rfl (fun i hi => by (obtain rfl : i = 0 := by omega); simp) 9 Try.underlying9
      have hz1 : (strOfNums (leB n k)).size ≤ 8 := by rw [strOfNums_size, leB_length]; omega
      have hz2 : (strOfNums [q % 256]).size ≤ 1 := by rw [strOfNums_size]; exact Nat.le_refl _
      go_wp2
      go_roundw
      case rel => exact ⟨k + 1, q / 256, by omega, by go_num, rfl, ⟨by rw [hq.out, Int.ediv_ediv_of_nonneg (Int.le_of_lt (Int.pow_pos (by omega))), Nat.mul_add, Int.pow_add]; rfl⟩, by rw [str_app, leB, hq.out], below_alloc HB.out _⟩
      case measure => simp [intOf]; omega
    · have hk2 : k = width.toNat := by omega
      have HE := Aside0.mk hk2
      clear hk2
      go_wp2
      go_ret
      exact ⟨by rw [← HE.out]; rfl, HB.out⟩
end Go.Proofs.Ytbfogcckbhkciaa.Hand
