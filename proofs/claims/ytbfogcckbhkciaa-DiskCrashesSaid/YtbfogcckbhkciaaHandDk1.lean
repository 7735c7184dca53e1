/- Marks of a disk: contracts and plain. -/
import Derived.Test.YtbfogcckbhkciaaHandCrcFn
import Derived.Test.YtbfogcckbhkciaaHandLaw1
namespace Go.Proofs.Ytbfogcckbhkciaa.Hand
open Go.RowKit Go.Proofs.YtbfogcckbhkciaaW.PrintWords
set_option linter.unusedVariables false
set_option linter.unusedSimpArgs false

theorem mod_splitq (n a : Int) (ha : 0 < a) : n % (a * 256) = a * (n / a % 256) + n % a := by
  have h1 := Int.mul_ediv_add_emod n a
  have h2 := Int.mul_ediv_add_emod (n / a) 256
  have h3 := Int.emod_nonneg n (Int.ne_of_gt ha)
  have h4 := Int.emod_lt_of_pos n ha
  have h5 : 0 ≤ n / a % 256 ∧ n / a % 256 ≤ 255 := by omega
  have h6 : a * (n / a % 256) ≤ a * 255 := Int.mul_le_mul_of_nonneg_left h5.2 (Int.le_of_lt ha)
  have h7 : 0 ≤ a * (n / a % 256) := Int.mul_nonneg (Int.le_of_lt ha) h5.1
  have e : n = (a * (n / a % 256) + n % a) + a * 256 * (n / a / 256) := by
    have : a * (n / a) = a * (256 * (n / a / 256) + n / a % 256) := by rw [h2]
    rw [Int.mul_add, ← Int.mul_assoc] at this
    omega
  conv => lhs; rw [e]
  rw [Int.add_mul_emod_self_left]
  exact Int.emod_eq_of_lt (by omega) (by omega)
theorem numL_leBq (n : Int) (k : Nat) : numL (leB n k) = n % 2 ^ (8 * k) := by
  induction k with
  | zero => simp [leB, numL, Int.emod_one]
  | succ k ih =>
    rw [leB, numL_append, ih, leB_length, pow256, Nat.mul_add, Int.pow_add]
    simp only [numL, Int.mul_zero, Int.add_zero]
    have h2 : (0 : Int) < 2 ^ (8 * k) := Int.pow_pos (by omega)
    have h3 : (2 : Int) ^ (8 * 1) = 256 := by decide
    rw [h3, mod_splitq n _ h2, Int.add_comm]
theorem leB_bysq (n : Int) (k : Nat) : Bys (leB n k) := by
  induction k with
  | zero => exact fun x hx => absurd hx (by simp [leB])
  | succ k ih =>
    intro x hx
    rw [leB] at hx
    rcases List.mem_append.1 hx with hx | hx
    · exact ih x hx
    · rw [List.mem_singleton.1 hx]
      omega
/-- A mark's first bytes. -/
def markH (gen which : Int) : List Int := leB gen 4 ++ [which, 0]
def markL (gen which : Int) : List Int := sealL (markH gen which)
def MarkOk (gen which : Int) : Prop := 1 ≤ gen ∧ gen ≤ 4294967295 ∧ 0 ≤ which ∧ which ≤ 1
instance (gen which : Int) : Decidable (MarkOk gen which) := by unfold MarkOk; infer_instance
def markN (gen which : Int) : Int := if MarkOk gen which then numL (markL gen which) else 0
def readM (n : Int) : Int × Int × Bool := if n = 0 ∨ markN (n % 4294967296) (n / 4294967296 % 256) ≠ n then (0, 0, false) else (n % 4294967296, n / 4294967296 % 256, true)
theorem markH_length (gen which : Int) : (markH gen which).length = 6 := by simp [markH, leB_length]
theorem markL_length (gen which : Int) : (markL gen which).length = 8 := by rw [markL, sealL_length, markH_length]
theorem sealL_bys {l : List Int} (h : Bys l) : Bys (sealL l) := by
  intro x hx
  rcases List.mem_append.1 hx with hx | hx
  · exact h x hx
  · exact leB_bysq _ _ x hx
theorem markH_bys {gen which : Int} (h : MarkOk gen which) : Bys (markH gen which) := by
  intro x hx
  rcases List.mem_append.1 hx with hx | hx
  · exact leB_bysq _ _ x hx
  · simp only [List.mem_cons, List.not_mem_nil, or_false] at hx
    obtain ⟨h1, h2, h3, h4⟩ := h
    omega
theorem markL_bys {gen which : Int} (h : MarkOk gen which) : Bys (markL gen which) := sealL_bys (markH_bys h)
theorem markN_eq {gen which : Int} (h : MarkOk gen which) : markN gen which = gen + 4294967296 * which + 281474976710656 * crcI (markH gen which) := by
  obtain ⟨h1, h2, h3, h4⟩ := h
  have hc := tI_lt (crcV 0#16 (markH gen which))
  have hc' : crcI (markH gen which) % 2 ^ (8 * 2) = crcI (markH gen which) := Int.emod_eq_of_lt hc.1 (by have := hc.2; unfold crcI; omega)
  rw [markN, if_pos ⟨h1, h2, h3, h4⟩, markL, sealL, markH, List.append_assoc, numL_append, numL_append, numL_leBq, numL_leBq, leB_length, ← markH, hc']
  simp only [numL, List.length_cons, List.length_nil]
  rw [Int.emod_eq_of_lt (by omega) (by omega)]
  omega
theorem markN_range (gen which : Int) : 0 ≤ markN gen which ∧ markN gen which < 18446744073709551616 := by
  by_cases h : MarkOk gen which
  · rw [markN_eq h]
    obtain ⟨h1, h2, h3, h4⟩ := h
    have hc := tI_lt (crcV 0#16 (markH gen which))
    rw [← crcI] at hc
    omega
  · rw [markN, if_neg h]
    omega
theorem readM_mark {gen which : Int} (h : MarkOk gen which) : readM (markN gen which) = (gen, which, true) := by
  have e := markN_eq h
  have hc := tI_lt (crcV 0#16 (markH gen which))
  rw [← crcI] at hc
  obtain ⟨h1, h2, h3, h4⟩ := h
  have e1 : markN gen which % 4294967296 = gen := by omega
  have e2 : markN gen which / 4294967296 % 256 = which := by omega
  rw [readM, e1, e2, if_neg (by omega)]
theorem readM_cases (n : Int) : readM n = (0, 0, false) ∨ ∃ gen which, MarkOk gen which ∧ n = markN gen which ∧ readM n = (gen, which, true) := by
  unfold readM
  split
  · exact .inl rfl
  · rename_i h
    simp only [not_or, ne_eq, Decidable.not_not] at h
    refine .inr ⟨_, _, ?_, h.2.symm, rfl⟩
    apply Classical.byContradiction
    intro hn
    rw [markN, if_neg hn] at h
    exact h.1 h.2.symm
end Go.Proofs.Ytbfogcckbhkciaa.Hand
