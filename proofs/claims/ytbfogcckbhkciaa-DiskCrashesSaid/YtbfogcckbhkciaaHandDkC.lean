/- A crash between the steps of saving: plain. -/
import Derived.Test.YtbfogcckbhkciaaHandLawDBoth
namespace Go.Proofs.Ytbfogcckbhkciaa.Hand
open Go.RowKit Go.Maps Go.Proofs.YtbfogcckbhkciaaW.PrintWords
set_option linter.unusedVariables false
set_option linter.unusedSimpArgs false
theorem wrsN_take (a : Nat) (X : List Int) {i j : Nat} (h : i ≤ j) : (wrsN a X j).take i = wrsN a X i := by
  rw [wrsN, wrsN, ← List.map_take, List.take_range, Nat.min_eq_left h]
section
variable {d : Dev} {W : Nat → List Int} {l : List Int} {C : Dev} {W' : Nat → List Int} {S : Nat → Option (List Int)} {F : Nat → Bool}
/-- What was saved ahead, in the second area, is told where its words stand. -/
theorem old_of (h : Cln d 31 W) (hm : mkW (W 0) = (2, 1)) (hc : Is C 31 W' S F) (h0 : W' 0 = W 0) (h1 : ∀ j, 16 ≤ j → j < 31 → W' j = W j) : (dmark C).1 = 2 ∧ loadL C = loadL d := by
  have hc2 : mkW (W' 0) = (2, 1) := by rw [h0]; exact hm
  refine ⟨by rw [Is.mark hc (by omega), hc2], ?_⟩
  rw [Is.load hc (by omega) (by rw [hc2]; decide), Is.load h (by omega) (by rw [hm]; decide), hc2, hm]
  exact mapW_congr (fun j hj1 hj2 => h1 j hj1 (by have : (31 - 1) / 2 = 15 := rfl; simp only at hj2; omega))
/-- What is saved now is told where all is done. -/
theorem now_of (h : Cln d 31 W) (hm : mkW (W 0) = (2, 1)) (hf : ¬ FullD d l) (hc : Is C 31 W' S F) (h1 : ∀ j, j < 31 → W' j = savedW 31 l W j) : (dmark C).1 = 3 ∧ ∃ rest, loadL C = l ++ rest ∧ (l ++ rest).length = 120 := by
  have hk := saved_mark h (by omega) hf
  rw [hm, if_neg (by decide)] at hk
  have hc2 : Is C 31 (savedW 31 l W) S F := hc.congr h1 (fun _ => rfl) (fun _ => rfl)
  obtain ⟨rest, e1, e2⟩ := saved_load h (by omega) hf
  refine ⟨by rw [Is.mark hc2 (by omega), hk]; rfl, rest, ?_, by omega⟩
  rw [Is.load hc2 (by omega) (by rw [hk]; decide), ← Is.load (save_cln h (by omega) hf) (by omega) (by rw [hk]; decide), e1]
theorem step_crash (h : Cln d 31 W) (hd : d.Ok) (hm : mkW (W 0) = (2, 1)) (hf : ¬ FullD d l) (hl : Bys l) (keep : List Int) {i : Nat} (hi : i ≤ (stepsD d l).length) :
    (i < (stepsD d l).length ∧ (dmark ((d.steps ((stepsD d l).take i)).crash keep)).1 = 2 ∧ loadL ((d.steps ((stepsD d l).take i)).crash keep) = loadL d) ∨
    ((stepsD d l).length < i + 3 ∧ (dmark ((d.steps ((stepsD d l).take i)).crash keep)).1 = 3 ∧ ∃ rest, loadL ((d.steps ((stepsD d l).take i)).crash keep) = l ++ rest ∧ (l ++ rest).length = 120) := by
  have hok : (d.steps ((stepsD d l).take i)).Ok := (Dev.steps_ok hd (fun m hm => stepsD_okm hl hf m (List.mem_of_mem_take hm))).1
  have hi0 : i0W 31 W = 1 := by rw [i0W, hm]; rfl
  have hp := pad_in ⟨_, _, h⟩ (by omega) hf
  have hp15 : (padL l).length / 8 ≤ 15 := hp
  have hX := pad_m l
  have hsd := stepsD_is h (l := l) (by omega)
  rw [hi0] at hsd
  have hsv : savedW 31 l W = allW 1 (padL l) (markL ((mkW (W 0)).1 + 1) (if (mkW (W 0)).1 = 0 then 0 else 1 - (mkW (W 0)).2)) ((padL l).length / 8) W := by rw [savedW, hi0]
  have hnow : ∀ {C W' S F}, Is C 31 W' S F → (∀ j, j < 31 → W' j = savedW 31 l W j) → (dmark C).1 = 3 ∧ ∃ rest, loadL C = l ++ rest ∧ (l ++ rest).length = 120 := fun hc h1 => now_of h hm hf hc h1
  have hold : ∀ {C W' S F}, Is C 31 W' S F → W' 0 = W 0 → (∀ j, 16 ≤ j → j < 31 → W' j = W j) → (dmark C).1 = 2 ∧ loadL C = loadL d := fun hc h0 h1 => old_of h hm hc h0 h1
  have hM : (markL ((mkW (W 0)).1 + 1) (if (mkW (W 0)).1 = 0 then 0 else 1 - (mkW (W 0)).2)).length = 8 := markL_length _ _
  generalize (markL ((mkW (W 0)).1 + 1) (if (mkW (W 0)).1 = 0 then 0 else 1 - (mkW (W 0)).2)) = M at *
  generalize (padL l).length / 8 = m at *
  have hwl : (wrsN (8 * 1) (padL l) m).length = m := by simp [wrsN]
  have hlen : (stepsD d l).length = m + 5 := by rw [hsd, List.length_append, hwl]; rfl
  rw [hlen] at hi ⊢
  by_cases hA : i ≤ m
  · have e : (stepsD d l).take i = wrsN (8 * 1) (padL l) i := by rw [hsd, List.take_append_of_le_length (by omega), wrsN_take _ _ hA]
    rw [e] at hok ⊢
    have hc := (Is.wrs h (i0 := 1) (j := i) (X := padL l) (by omega) (by omega)).crash hok keep
    refine .inl ⟨by omega, hold hc ?_ (fun j hj1 hj2 => ?_)⟩
    · simp [newS, newW]
    · have : ¬ (1 ≤ j ∧ j < 1 + i) := by omega
      simp [newS, newW, this]
  · have e : (stepsD d l).take i = wrsN (8 * 1) (padL l) m ++ ([.fl (8 * 1) (padL l).length, .fe, .wr 0 M, .fl 0 8, .fe] : List StepM).take (i - m) := by
      rw [hsd, List.take_append, hwl, List.take_of_length_le (by omega)]
    rw [e] at hok ⊢
    rcases (show i = m + 1 ∨ i = m + 2 ∨ i = m + 3 ∨ i = m + 4 ∨ i = m + 5 by omega) with rfl | rfl | rfl | rfl | rfl
    · rw [show m + 1 - m = 1 by omega] at hok ⊢
      have hc := (Is.s1 h (i0 := 1) (m := m) (X := padL l) (by omega) hX).crash hok keep
      refine .inl ⟨by omega, hold hc ?_ (fun j hj1 hj2 => ?_)⟩
      · simp [newS, newW]
      · have : ¬ (1 ≤ j ∧ j < 1 + m) := by omega
        simp [newS, newW, this]
    · rw [show m + 2 - m = 2 by omega] at hok ⊢
      have hc := Is.crash (Is.s2 h (i0 := 1) (m := m) (X := padL l) (by omega) hX) hok keep
      refine .inl ⟨by omega, hold hc ?_ (fun j hj1 hj2 => ?_)⟩
      · simp [newW]
      · have : ¬ (1 ≤ j ∧ j < 1 + m) := by omega
        simp [newW, this]
    · rw [show m + 3 - m = 3 by omega] at hok ⊢
      have hc := (Is.s3 h (i0 := 1) (m := m) (X := padL l) (M := M) (by omega) (by omega) hX hM (by omega)).crash hok keep
      by_cases hk : ((0 : Nat) : Int) ∈ keep
      · refine .inr ⟨by omega, hnow hc (fun j hj => ?_)⟩
        rw [hsv]
        by_cases hj0 : j = 0
        · subst hj0
          simp only [if_pos hk, if_true]
        · simp [hj0]
      · refine .inl ⟨by omega, hold hc ?_ (fun j hj1 hj2 => ?_)⟩
        · simp only [if_neg hk, if_true]
        · have h2 : ¬ (1 ≤ j ∧ j < 1 + m) := by omega
          have h3 : ¬ j = 0 := by omega
          simp [allW, newW, h2, h3]
    · rw [show m + 4 - m = 4 by omega] at hok ⊢
      have hc := (Is.s4 h (i0 := 1) (m := m) (X := padL l) (M := M) (by omega) (by omega) hX hM (by omega)).crash hok keep
      by_cases hk : ((0 : Nat) : Int) ∈ keep
      · refine .inr ⟨by omega, hnow hc (fun j hj => ?_)⟩
        rw [hsv]
        by_cases hj0 : j = 0
        · subst hj0
          simp only [if_pos hk, if_true]
        · simp [hj0]
      · refine .inl ⟨by omega, hold hc ?_ (fun j hj1 hj2 => ?_)⟩
        · simp only [if_neg hk, if_true]
        · have h2 : ¬ (1 ≤ j ∧ j < 1 + m) := by omega
          have h3 : ¬ j = 0 := by omega
          simp [allW, newW, h2, h3]
    · rw [show m + 5 - m = 5 by omega] at hok ⊢
      have hc := Is.crash (Is.s5 h (i0 := 1) (m := m) (X := padL l) (M := M) (by omega) (by omega) hX hM (by omega)) hok keep
      refine .inr ⟨by omega, hnow hc (fun j hj => ?_)⟩
      rw [hsv]
end
end Go.Proofs.Ytbfogcckbhkciaa.Hand
