/- WordWide, walked. -/
import Derived.Test.YtgkkboanbjkimaaHandSigns
import Derived.Test.YtgkkboanbjkimaaHandTake
import Derived.Test.YtgkkboanbjkimaaHandOpen
namespace Go.Proofs.Ytgkkboanbjkimaa.Hand
open Go.RowKit Go.Proofs.YtgkkboanbjkimaaW.PrintWords

theorem leB_take (n : Int) (m k : Nat) (h : k ≤ m) : (leB n m).take k = leB n k := by
  induction m with
  | zero => obtain rfl : k = 0 := by omega
            rfl
  | succ m ih =>
    rw [leB]
    rcases Nat.lt_or_ge m k with h1 | h1
    · obtain rfl : k = m + 1 := by omega
      rw [List.take_of_length_le (by simp [leB_length])]
      rfl
    · rw [List.take_append_of_le_length (by rw [leB_length]; exact h1)]
      exact ih h1
/-- The width of number j, and what is last ahead of it. -/
def wideW (j : Nat) : Int := if j = 0 then 1 else if j = 1 then 2 else if j = 2 then 4 else 8
def lastL (n : Int) (j : Nat) : List Int := if j = 0 then [] else putL n (wideW (j - 1))
theorem fits_up {n : Int} {j : Nat} (h0 : 0 ≤ n) (h1 : n < 18446744073709551616) (h : fitsB n (wideW j) = true) : fitsB n (wideW (j + 1)) = true := by
  rw [fits_one _ _ h0 h1] at h ⊢
  simp only [rfitsB, Bool.and_eq_true, decide_eq_true_eq] at h ⊢
  unfold wideW at *
  match j with
  | 0 => exact ⟨rfl, Int.le_trans h.2 (by decide)⟩
  | 1 => exact ⟨rfl, Int.le_trans h.2 (by decide)⟩
  | 2 => exact ⟨rfl, Int.le_trans h.2 (by decide)⟩
  | j + 3 => exact h
def HasWidths (w : World) (g : Nat) : Prop := w.heap[g]? = some (.cells #[.int .i64 1, .int .i64 2, .int .i64 4, .int .i64 8] 3 (0, 0))
theorem HasWidths.cell {w : World} {g : Nat} (h : HasWidths w g) : w.cell? ⟨g, 0, none⟩ = some (.int .i64 1) ∧ w.cell? ⟨g, 1, none⟩ = some (.int .i64 2) ∧ w.cell? ⟨g, 2, none⟩ = some (.int .i64 4) ∧ w.cell? ⟨g, 3, none⟩ = some (.int .i64 8) := by
  unfold HasWidths at h
  simp [World.cell?, h]
theorem wide_case {n : Int} (HU : ∀ j, fitsB n (wideW j) = true → fitsB n (wideW (j + 1)) = true) (j : Nat) (h4 : j < 4) {q : Int} (hw : wideW j = q) :
    (fitsB n q = false ∧ lastL n j = []) ∨ (fitsB n q = true ∧ lastL n j = []) ∨ (fitsB n q = true ∧ ∃ p m : Nat, 0 < p ∧ p ≤ m ∧ m ≤ 8 ∧ lastL n j = leB n p ∧ putL n q = leB n m) := by
  subst hw
  cases j with
  | zero =>
    cases h : fitsB n (wideW 0) with
    | false => exact .inl ⟨rfl, rfl⟩
    | true => exact .inr (.inl ⟨rfl, rfl⟩)
  | succ j =>
    have hl : lastL n (j + 1) = putL n (wideW j) := by rw [lastL, if_neg (by omega)]; rfl
    cases hp : fitsB n (wideW j) with
    | false =>
      have he : lastL n (j + 1) = [] := by rw [hl, putL, hp]; rfl
      cases h : fitsB n (wideW (j + 1)) with
      | false => exact .inl ⟨rfl, he⟩
      | true => exact .inr (.inl ⟨rfl, he⟩)
    | true =>
      have hq := HU j hp
      refine .inr (.inr ⟨hq, (wideW j).toNat, (wideW (j + 1)).toNat, ?_, ?_, ?_, ?_, ?_⟩)
      · unfold wideW; repeat' split
        all_goals decide
      · match j, h4 with
        | 0, _ => decide
        | 1, _ => decide
        | 2, _ => decide
      · unfold wideW; repeat' split
        all_goals decide
      · rw [hl, putL, hp, if_pos rfl]
      · rw [putL, hq, if_pos rfl]
theorem HasWidths.cell' {w : World} {g : Nat} (h : HasWidths w g) (j : Nat) (hj : j < 4) : w.cell? ⟨g, j, none⟩ = some (.int .i64 (wideW j)) := by
  obtain ⟨q0, q1, q2, q3⟩ := h.cell
  match j, hj with
  | 0, _ => exact q0
  | 1, _ => exact q1
  | 2, _ => exact q2
  | 3, _ => exact q3
theorem HasWidths.below {w w1 : World} {g : Nat} (h : HasWidths w g) (hb : Below w.heap.size w w1) : HasWidths w1 g := (hb.block g (Array.getElem?_eq_some_iff.1 h).1).trans h
set_option maxHeartbeats 4000000 in
theorem wide_calls (n : Int) (w : World) (h0 : 0 ≤ n) (h1 : n < 18446744073709551616) :
    Calls Try.prog 6 #[.int .u64 n] w fun e w' => e = .returned (.bool true) ∧ Below w.heap.size w w' := by
  have HU := Aside0.mk (fun j => fits_up (j := j) h0 h1)
  have H8 := Aside0.mk (show fitsB n 8 = true by rw [fits_one _ _ h0 h1]; simp [rfitsB, topN, rightB]; omega)
  clear h0 h1
  go_enter Try.func6, Try.ntmps6
  go_wp2
  go_loopw [3, 10] (fun vl i wr => ∃ j : Nat, j ≤ 4 ∧ i = .int .i64 j ∧ vl = .string (strOfNums (lastL n j)) ∧ Aside0 (HasWidths wr w.heap.size) ∧ Aside0 (Below w.heap.size w wr)) (fun _ i _ => 4 - (intOf i).toNat)
  case atStart => exact ⟨0, Nat.zero_le _, rfl, rfl, ⟨heap_alloc_new w _⟩, ⟨below_alloc (Below.refl _ _) _⟩⟩
  case round =>
    obtain ⟨j, hj, rfl, rfl, HW, HB⟩ := hrel
    by_cases h4 : j < 4
    · have hq := HW.out.cell' j h4
      have H1 := Aside0.mk (show lastL n (j + 1) = putL n (wideW j) by rw [lastL, if_neg (by omega)]; rfl)
      generalize hw : wideW j = q at hq H1
      have hcase : (fitsB n q = false ∧ lastL n j = []) ∨ (fitsB n q = true ∧ lastL n j = []) ∨ (fitsB n q = true ∧ ∃ p m : Nat, 0 < p ∧ p ≤ m ∧ m ≤ 8 ∧ lastL n j = leB n p ∧ putL n q = leB n m) := wide_case HU.out j h4 hw
      clear hw
      rcases hcase with ⟨hf, hl⟩ | ⟨hf, hl⟩ | ⟨hf, p, m, hp0, hpm, hm8, hl, hL⟩
      · rw [hl, show strOfNums [] = ⟨#[]⟩ from rfl]
        have HE := Aside0.mk (show putL n q = [] by rw [putL, hf]; rfl)
        go_wp2_with (first | (go_at_call 15; (with_reducible refine (put_new q n _).mono ?_); rintro e w1 ⟨v1, rfl, hr1, hb1⟩; have HB1 := Aside0.mk (HB.out.trans (hb1.mono HB.out.size)); have HW1 := Aside0.mk (HW.out.below hb1);  clear hr1 hb1) | (go_at_call 16; (with_reducible refine (fits_calls n q _).mono ?_); rintro e w2 ⟨rfl, rfl⟩))
        go_roundw
        case rel => exact ⟨j + 1, by omega, by go_num, by rw [H1.out, HE.out]; rfl, HW1, HB1⟩
        case measure => (simp [intOf]) <;> omega
      · rw [hl, show strOfNums [] = ⟨#[]⟩ from rfl]
        go_wp2_with (first | (go_at_call 15; (with_reducible refine (put_new q n _).mono ?_); rintro e w1 ⟨v1, rfl, hr1, hb1⟩; have HB1 := Aside0.mk (HB.out.trans (hb1.mono HB.out.size)); have HW1 := Aside0.mk (HW.out.below hb1); have hconv := conv_own hr1; clear hr1 hb1) | (go_at_call 16; (with_reducible refine (fits_calls n q _).mono ?_); rintro e w2 ⟨rfl, rfl⟩))
        go_roundw
        case rel => exact ⟨j + 1, by omega, by go_num, by rw [H1.out], HW1, HB1⟩
        case measure => (simp [intOf]) <;> omega
      · rw [hl]
        obtain ⟨t, ht⟩ : ∃ t, t = strOfNums (leB n p) := ⟨_, rfl⟩
        have hz : t.size = p := by rw [ht, strOfNums_size, leB_length]
        have hne : t.toList.isEmpty = false := by
          rw [ht]
          refine str_ne (fun h => ?_)
          have := leB_length n p
          rw [h] at this
          simp at this
          omega
        have HLL := Aside0.mk hL
        have HT := Aside0.mk ht
        have HPM := Aside0.mk (leB_take n m p hpm)
        have HML := Aside0.mk (leB_length n m)
        rw [← ht]
        clear ht hL
        go_wp2_with (first | (go_at_call 15; (with_reducible refine (put_new q n _).mono ?_); rintro e w1 ⟨v1, rfl, hr1, hb1⟩; have HB1 := Aside0.mk (HB.out.trans (hb1.mono HB.out.size)); have HW1 := Aside0.mk (HW.out.below hb1); rw [HLL.out] at hr1; have hconv := conv_own hr1; obtain ⟨A1, c1, hv1, hc1, hR1⟩ := reads_own2 hr1; rw [HML.out] at hv1 hc1; subst hv1; have htk := take_run A1 c1 m p hpm hc1 (by omega); have hconvt : (convert 22 9 (.slice A1 p c1)).run Try.prog w1 = .ok (.string t) w1 := (by have := conv_take (c := c1) p (by rw [HML.out]; exact hpm) hR1; rw [HPM.out, ← HT.out] at this; exact this); clear hR1; clear hr1 hb1) | (go_at_call 16; (with_reducible refine (fits_calls n q _).mono ?_); rintro e w2 ⟨rfl, rfl⟩))
        go_roundw
        case rel => exact ⟨j + 1, by omega, by go_num, by rw [H1.out, HLL.out], HW1, HB1⟩
        case measure => (simp [intOf]) <;> omega
    · obtain rfl : j = 4 := by omega
      obtain ⟨t, ht⟩ : ∃ t, t = strOfNums (lastL n 4) := ⟨_, rfl⟩
      have hne : t.toList.isEmpty = false := by
        rw [ht]
        refine str_ne (fun h => ?_)
        have := putL_length H8.out
        rw [show putL n 8 = lastL n 4 from rfl, h] at this
        simp at this
      rw [← ht]
      clear ht
      go_wp2_with (go_at_call 10; (with_reducible refine (alive_calls _).mono ?_); rintro e wA ⟨rfl, hbA⟩; have HBA := Aside0.mk hbA; clear hbA)
      go_ret
      exact ⟨rfl, HB.out.trans (HBA.out.mono HB.out.size)⟩
theorem wordWide_walk (n : Int) (w : World) (h : (Lit.int .u64 n).wf = true) :
    Calls Try.prog 6 #[.int .u64 n] w fun e w' => e = .returned (.bool true) ∧ Below w.heap.size w w' := wide_calls n w (wf_u64 h).1 (wf_u64 h).2
end Go.Proofs.Ytgkkboanbjkimaa.Hand
