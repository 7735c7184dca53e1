/- Contracts of word.Get, its closure, word.right and slices.Clone at []byte: what each call answers, and that nothing that was there is changed. -/
import Derived.Test.YtbfogcckbhkciaaProg
import Derived.WalkKit
import Derived.Below
import Derived.OwnWalk
import Derived.BigQuiet
import Derived.BigFrame
import Derived.KernelRfl
import Derived.LoopTactic
import Derived.Lib.Hide
import Derived.Outline
import Derived.Test.YtbfogcckbhkciaaWWords
namespace Go.Proofs.Ytbfogcckbhkciaa.Hand
open Go.RowKit Go.Proofs.YtbfogcckbhkciaaW.PrintWords

def rightB (a : Int) : Bool := a == 1 || (a == 2 || (a == 4 || a == 8))
theorem right_calls (a : Int) (w : World) : Calls Try.prog 126 #[.int .i64 a] w fun e w' => e = .returned (.bool (rightB a)) ∧ w = w' := by
  by_cases h1 : a = 1
  · go_enter Try.func126, Try.ntmps126
    go_wp2
    go_ret
    exact ⟨by simp [rightB, h1], rfl⟩
  · by_cases h2 : a = 2
    · go_enter Try.func126, Try.ntmps126
      go_wp2
      go_ret
      exact ⟨by simp [rightB, h2], rfl⟩
    · by_cases h3 : a = 4
      · go_enter Try.func126, Try.ntmps126
        go_wp2
        go_ret
        exact ⟨by simp [rightB, h3], rfl⟩
      · go_enter Try.func126, Try.ntmps126
        go_wp2
        go_ret
        exact ⟨by rw [rightB, beq_false_of_ne h1, beq_false_of_ne h2, beq_false_of_ne h3]; rfl, rfl⟩

def insideB (at_ width : Int) (n : Nat) : Bool := decide (0 ≤ at_) && (decide (at_ ≤ n) && decide (width ≤ n - at_))
theorem inside_calls (w : World) (pa pb pw : Nat) (at_ width : Int) (a : Option Addr) (n c : Nat)
    (hm : n ≤ 9223372036854775807) (ha : w.cell? ⟨pa,0,none⟩ = some (.int .i64 at_)) (hb : w.cell? ⟨pb,0,none⟩ = some (.slice a n c)) (hw : w.cell? ⟨pw,0,none⟩ = some (.int .i64 width)) :
    Calls Try.prog 125 #[.pointer (some ⟨pa,0,none⟩), .pointer (some ⟨pb,0,none⟩), .pointer (some ⟨pw,0,none⟩)] w fun e w' => e = .returned (.bool (insideB at_ width n)) ∧ w = w' := by
  by_cases c1 : 0 ≤ at_
  · by_cases c2 : at_ ≤ (n : Int)
    · go_enter Try.func125, Try.ntmps125
      go_wp2
      go_ret
      exact ⟨by rw [insideB, decide_eq_true c1, decide_eq_true c2]; rfl, rfl⟩
    · go_enter Try.func125, Try.ntmps125
      go_wp2
      go_ret
      exact ⟨by rw [insideB, decide_eq_false (Int.not_le.2 c2), Bool.false_and, Bool.and_false]; rfl, rfl⟩
  · go_enter Try.func125, Try.ntmps125
    go_wp2
    go_ret
    exact ⟨by rw [insideB, decide_eq_false (Int.not_le.2 c1), Bool.false_and]; rfl, rfl⟩

/-- The number in the first k bytes from at_ on, as the loop reckons it. -/
def getN (l : List Int) (at_ : Int) : Nat → Int
  | 0 => 0
  | k + 1 => bits .or .u64 (getN l at_ k) (IntKind.u64.wrap (IntKind.u64.wrap (rd l (at_ + k)) * 2 ^ (8 * k)))
def getF (l : List Int) (at_ width : Int) : Option (Int × Bool) :=
  if ¬ l.length ≤ 140737488355328 then none else if rightB width && insideB at_ width l.length then some (getN l at_ width.toNat, true) else some (0, false)

theorem get_no (l : List Int) (A : Option Addr) (c : Nat) (at_ width : Int) (w : World) (hl : l.length ≤ 9223372036854775807)
    (h : (rightB width && insideB at_ width l.length) = false) :
    Calls Try.prog 94 #[.slice A l.length c, .int .i64 at_, .int .i64 width] w fun e w' => e = .returned (.tuple #[.int .u64 0, .bool false]) ∧ Below w.heap.size w w' := by
  cases hr : rightB width with
  | false =>
    go_enter Try.func94, Try.ntmps94
    go_wp2_with (go_at_call 126; refine (right_calls _ _).mono ?_; rintro e w' ⟨rfl, rfl⟩)
    go_ret2
    exact ⟨rfl, below_alloc (below_alloc (below_alloc (Below.refl _ _) _) _) _⟩
  | true =>
    have hi : insideB at_ width l.length = false := by simpa [hr] using h
    clear h
    go_enter Try.func94, Try.ntmps94
    go_wp2_with (first | (go_at_call 126; refine (right_calls _ _).mono ?_; rintro e w' ⟨rfl, rfl⟩) | (go_at_call 125; refine (inside_calls _ _ _ _ at_ width A l.length c hl (by go_simp) (by go_simp) (by go_simp)).mono ?_; rintro e w' ⟨rfl, rfl⟩))
    go_ret2
    exact ⟨rfl, below_alloc (below_alloc (below_alloc (Below.refl _ _) _) _) _⟩

theorem get_yes (l : List Int) (A : Option Addr) (c : Nat) (at_ width : Int) (w : World) (hx : ReadsInt w .u8 A l.length l)
    (h : (rightB width && insideB at_ width l.length) = true) :
    Calls Try.prog 94 #[.slice A l.length c, .int .i64 at_, .int .i64 width] w fun e w' => e = .returned (.tuple #[.int .u64 (getN l at_ width.toNat), .bool true]) ∧ Below w.heap.size w w' := by
  have hl := hx.2.1
  obtain ⟨hr, hi⟩ : rightB width = true ∧ insideB at_ width l.length = true := by simpa using h
  clear h
  go_enter Try.func94, Try.ntmps94
  go_wp2_with (first | (go_at_call 126; refine (right_calls _ _).mono ?_; rintro e w' ⟨rfl, rfl⟩) | (go_at_call 125; refine (inside_calls _ _ _ _ at_ width A l.length c hl (by go_simp) (by go_simp) (by go_simp)).mono ?_; rintro e w' ⟨rfl, rfl⟩))
  have hw : 0 < width ∧ width ≤ 8 := by
    have := hr
    simp only [rightB, Bool.or_eq_true, beq_iff_eq] at this
    omega
  have hii : 0 ≤ at_ ∧ at_ ≤ l.length ∧ width ≤ l.length - at_ := by
    have := hi
    simp only [insideB, Bool.and_eq_true, decide_eq_true_eq] at this
    exact this
  obtain ⟨hw0, hw8⟩ := hw
  obtain ⟨hi0, hi1, hi2⟩ := hii
  clear hr hi
  go_loop [9, 21] (fun n i => ∃ k : Nat, k ≤ width.toNat ∧ i = .int .i64 k ∧ n = .int .u64 (getN l at_ k)) (fun _ i => width.toNat - (intOf i).toNat)
  case atStart => exact ⟨0, Nat.zero_le _, rfl, rfl⟩
  case round =>
    obtain ⟨k, hk, rfl, rfl⟩ := hrel
    by_cases hlt : (k : Int) < width
    · obtain ⟨ad, rfl, hc⟩ := hx.at_ (at_ + k) (by omega) (by omega)
      have hc3 := pw_cell_below (below_alloc (below_alloc (below_alloc (Below.refl w.heap.size w) (.cells #[.slice (some ad) l.length c] 23)) (.cells #[.int .i64 at_] 3)) (.cells #[.int .i64 width] 3)) hc
      clear hc
      have hsum : IntKind.i64.wrap (at_ + k) = at_ + k := IntWalk.i64_in _ (by omega)
      go_wp2
      go_round
      case rel => exact ⟨k + 1, by omega, by go_num, rfl⟩
      case measure => simp [intOf]; omega
    · have hk2 : k = width.toNat := by omega
      go_wp2
      go_ret2
      exact ⟨rfl, below_alloc (below_alloc (below_alloc (Below.refl _ _) _) _) _⟩

theorem get_calls (A : Option Addr) (c : Nat) (l : List Int) (at_ width : Int) (r1 : Int) (r2 : Bool) (w : World) (hr : Kd.C (Kd.int .u8) w A l.length l) (h : getF l at_ width = some (r1, r2)) :
    Calls Try.prog 94 #[.slice A l.length c, .int .i64 at_, .int .i64 width] w fun e w' => e = .returned (.tuple #[.int .u64 r1, .bool r2]) ∧ Below w.heap.size w w' := by
  unfold getF at h
  by_cases hl : l.length ≤ 140737488355328
  · rw [if_neg (by omega)] at h
    cases hb : (rightB width && insideB at_ width l.length) with
    | true =>
      rw [hb, if_pos rfl] at h
      simp only [Option.some.injEq, Prod.mk.injEq] at h
      obtain ⟨rfl, rfl⟩ := h
      exact get_yes l A c at_ width w (Kd.reads_of_C (d := (0 : Int)) hr |> fun h => ⟨h.1, by omega, h.2.2⟩) hb
    | false =>
      rw [hb, if_neg (by simp)] at h
      simp only [Option.some.injEq, Prod.mk.injEq] at h
      obtain ⟨rfl, rfl⟩ := h
      exact get_no l A c at_ width w (by omega) hb
  · rw [if_pos hl] at h
    exact absurd h (by simp)

end Go.Proofs.Ytbfogcckbhkciaa.Hand
