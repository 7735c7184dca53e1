/- What is written of slots is read as it was: plain. -/
import Derived.Test.YtbogfjadmiodkaaHandSlR5
import Derived.Test.YtbogfjadmiodkaaHandSlMade
namespace Go.Proofs.Ytbogfjadmiodkaa.Hand
open Go.RowKit Go.Proofs.YtbogfjadmiodkaaW.PrintWords

theorem mod_splitp (n a : Int) (ha : 0 < a) : n % (a * 256) = a * (n / a % 256) + n % a := by
  have h1 := Int.mul_ediv_add_emod n a
  have h2 := Int.mul_ediv_add_emod (n / a) 256
  have h3 := Int.emod_nonneg n (Int.ne_of_gt ha)
  have h4 := Int.emod_lt_of_pos n ha
  have h5 : 0 ≤ n / a % 256 ∧ n / a % 256 ≤ 255 := by omega
  have h6 : a * (n / a % 256) ≤ a * 255 := Int.mul_le_mul_of_nonneg_left h5.2 (Int.le_of_lt ha)
  have h7 : 0 ≤ a * (n / a % 256) := Int.mul_nonneg (Int.le_of_lt ha) h5.1
  have e : n = (a * (n / a % 256) + n % a) + a * 256 * (n / a / 256) := by
    have : a * (n / a) = a * (256 * (n / a / 256) + n / a % 256) := by rw [h2]
    rw [Int.mul_add, ← Int.mul_assoc] at this
    omega
  conv => lhs; rw [e]
  rw [Int.add_mul_emod_self_left]
  exact Int.emod_eq_of_lt (by omega) (by omega)
theorem numL_leBp (n : Int) (k : Nat) : numL (leB n k) = n % 2 ^ (8 * k) := by
  induction k with
  | zero => simp [leB, numL, Int.emod_one]
  | succ k ih =>
    rw [leB, numL_append, ih, leB_length, pow256, Nat.mul_add, Int.pow_add]
    simp only [numL, Int.mul_zero, Int.add_zero]
    have h2 : (0 : Int) < 2 ^ (8 * k) := Int.pow_pos (by omega)
    have h3 : (2 : Int) ^ (8 * 1) = 256 := by decide
    rw [h3, mod_splitp n _ h2, Int.add_comm]
theorem putL2 {n : Int} (h0 : 0 ≤ n) (h1 : n ≤ 65535) : putL n 2 = leB n 2 := by
  have : fitsB n 2 = true := by rw [fits_one _ _ h0 (by omega)]; simp [rfitsB, rightB, topN]; omega
  rw [putL, this]
  rfl
theorem putL8 {n : Int} (h0 : 0 ≤ n) (h1 : n < 18446744073709551616) : putL n 8 = leB n 8 := by
  have : fitsB n 8 = true := by rw [fits_one _ _ h0 h1]; simp [rfitsB, rightB, topN]; omega
  rw [putL, this]
  rfl
theorem gNum_at {m : Nat} (hm : rightB (m : Int) = true) (pre x post : List Int) (hx : x.length = m) {a : Int} (ha : a = (pre.length : Int)) : gNum (pre ++ x ++ post) a m = numL x := by
  subst ha
  have hi : insideB (pre.length : Int) m (pre ++ x ++ post).length = true := by
    rw [insideB]
    simp only [List.length_append, Bool.and_eq_true, decide_eq_true_eq]
    omega
  rw [gNum, hm, hi, Bool.and_self, if_pos rfl, cut, Int.toNat_natCast, Int.toNat_natCast, List.append_assoc, List.drop_left', ← hx, List.take_left']
  all_goals rfl
theorem gNum_le2 (pre post : List Int) {n a : Int} (h0 : 0 ≤ n) (h1 : n ≤ 65535) (ha : a = (pre.length : Int)) : gNum (pre ++ leB n 2 ++ post) a 2 = n := by
  have := gNum_at (m := 2) (by decide) pre (leB n 2) post (leB_length _ _) ha
  rw [show ((2 : Nat) : Int) = 2 from rfl] at this
  rw [this, numL_leBp]
  exact Int.emod_eq_of_lt h0 (by omega)
theorem gNum_le8 (pre post : List Int) {n a : Int} (h0 : 0 ≤ n) (h1 : n < 18446744073709551616) (ha : a = (pre.length : Int)) : gNum (pre ++ leB n 8 ++ post) a 8 = n := by
  have := gNum_at (m := 8) (by decide) pre (leB n 8) post (leB_length _ _) ha
  rw [show ((8 : Nat) : Int) = 8 from rfl] at this
  rw [this, numL_leBp]
  exact Int.emod_eq_of_lt h0 (by omega)
theorem gNum_one (pre post : List Int) (n : Int) {a : Int} (ha : a = (pre.length : Int)) : gNum (pre ++ [n] ++ post) a 1 = n := by
  have := gNum_at (m := 1) (by decide) pre [n] post rfl ha
  rw [show ((1 : Nat) : Int) = 1 from rfl] at this
  rw [this]
  simp [numL]
/-- A slot that is written as one only. -/
def CanSl (x : Sl) : Prop := (x.2.1 = true → ¬ x.1 = 0) ∧ (x.2.1 = false → x.2.2 = 0)
theorem dec_enc {L : List Sl} (hw : ∀ x ∈ L, WfSl x) (hc : ∀ x ∈ L, CanSl x) : ∀ (pre : List Int) (a : Int), a = (pre.length : Int) → decLoop (pre ++ L.flatMap encOne) L.length a = some L := by
  induction L with
  | nil => intro pre a ha; rfl
  | cons x L ih =>
    intro pre a ha
    obtain ⟨⟨hx0, hx1⟩, hx2, hx3⟩ := hw x List.mem_cons_self
    obtain ⟨hc1, hc2⟩ := hc x List.mem_cons_self
    have ih' := ih (fun y hy => hw y (List.mem_cons_of_mem _ hy)) (fun y hy => hc y (List.mem_cons_of_mem _ hy))
    obtain ⟨g, u, v⟩ := x
    simp only at hx0 hx1 hx2 hx3 hc1 hc2
    rw [List.flatMap_cons, List.length_cons]
    cases u with
    | true =>
      have he : encOne (g, true, v) = leB g 2 ++ ([1] ++ leB v 8) := by
        simp only [encOne, if_true]
        rw [putL2 hx0 hx1, putL8 hx2 hx3]
        rfl
      have h1 : gNum (pre ++ (encOne (g, true, v) ++ L.flatMap encOne)) a 2 = g := by
        rw [he, ← List.append_assoc, ← List.append_assoc, List.append_assoc (pre ++ leB g 2)]
        exact gNum_le2 pre _ hx0 hx1 ha
      have h2 : gNum (pre ++ (encOne (g, true, v) ++ L.flatMap encOne)) (a + 2) 1 = 1 := by
        rw [he, show pre ++ (leB g 2 ++ ([1] ++ leB v 8) ++ L.flatMap encOne) = (pre ++ leB g 2) ++ [1] ++ (leB v 8 ++ L.flatMap encOne) by simp]
        exact gNum_one _ _ 1 (by rw [ha, List.length_append, leB_length]; rfl)
      have h3 : gNum (pre ++ (encOne (g, true, v) ++ L.flatMap encOne)) (a + 3) 8 = v := by
        rw [he, show pre ++ (leB g 2 ++ ([1] ++ leB v 8) ++ L.flatMap encOne) = (pre ++ leB g 2 ++ [1]) ++ leB v 8 ++ L.flatMap encOne by simp]
        exact gNum_le8 _ _ hx2 hx3 (by rw [ha, List.length_append, List.length_append, leB_length]; rfl)
      have hs : decStep (pre ++ (encOne (g, true, v) ++ L.flatMap encOne)) a = ((g, true, v), a + 11) := by rw [decStep, h2, if_pos rfl, h1, h3]
      rw [decLoop, hs, if_neg (fun h => hc1 rfl h.2), ← List.append_assoc, ih' (pre ++ encOne (g, true, v)) (a + 11) (by rw [ha, List.length_append, he]; simp [leB_length])]
      rfl
    | false =>
      obtain rfl := hc2 rfl
      have he : encOne (g, false, 0) = leB g 2 ++ [0] := by
        simp only [encOne, Bool.false_eq_true, if_false]
        rw [putL2 hx0 hx1]
      have h1 : gNum (pre ++ (encOne (g, false, 0) ++ L.flatMap encOne)) a 2 = g := by
        rw [he, ← List.append_assoc, ← List.append_assoc, List.append_assoc (pre ++ leB g 2)]
        exact gNum_le2 pre _ hx0 hx1 ha
      have h2 : gNum (pre ++ (encOne (g, false, 0) ++ L.flatMap encOne)) (a + 2) 1 = 0 := by
        rw [he, show pre ++ (leB g 2 ++ [0] ++ L.flatMap encOne) = (pre ++ leB g 2) ++ [0] ++ (L.flatMap encOne) by simp]
        exact gNum_one _ _ 0 (by rw [ha, List.length_append, leB_length]; rfl)
      have hs : decStep (pre ++ (encOne (g, false, 0) ++ L.flatMap encOne)) a = ((g, false, 0), a + 3) := by rw [decStep, h2, if_neg (by decide), h1]
      rw [decLoop, hs, if_neg (fun h => absurd h.1 (by simp)), ← List.append_assoc, ih' (pre ++ encOne (g, false, 0)) (a + 3) (by rw [ha, List.length_append, he]; simp [leB_length])]
      rfl
theorem decM_encM {L : List Sl} (hw : ∀ x ∈ L, WfSl x) (hc : ∀ x ∈ L, CanSl x) (hl : L.length ≤ 256) : decM (encM L) = some L := by
  have he : encM L = leB (L.length : Int) 2 ++ L.flatMap encOne := by rw [encM, putL2 (by omega) (by omega)]
  have hn : gNum (encM L) 0 2 = (L.length : Int) := by
    rw [he]
    exact gNum_le2 [] _ (by omega) (by omega) rfl
  rw [decM_of hn hl, show decLoop (encM L) L.length 2 = some L by rw [he]; exact dec_enc hw hc _ _ (by rw [leB_length]; rfl)]
  simp
theorem decStep_can {l : List Int} {a : Int} (h : ¬ ((decStep l a).1.2.1 = true ∧ (decStep l a).1.1 = 0)) : CanSl (decStep l a).1 := by
  unfold decStep at *
  split at h
  · rename_i hu
    rw [if_pos hu]
    exact ⟨fun _ h2 => h ⟨rfl, h2⟩, fun h2 => absurd h2 (by simp)⟩
  · rename_i hu
    rw [if_neg hu]
    exact ⟨fun h2 => absurd h2 (by simp), fun _ => rfl⟩
theorem decLoop_can {l : List Int} {n : Nat} {a : Int} {L : List Sl} (h : decLoop l n a = some L) : ∀ x ∈ L, CanSl x := by
  induction n generalizing a L with
  | zero => cases h; intro x hx; cases hx
  | succ n ih =>
    obtain ⟨L', rfl, h2, h3⟩ := dec_step h
    intro x hx
    rcases List.mem_cons.1 hx with rfl | hx
    · exact decStep_can h3
    · exact ih h2 x hx
theorem decM_can {l : List Int} {L : List Sl} (h : decM l = some L) : ∀ x ∈ L, CanSl x := by
  unfold decM at h
  split at h
  · cases h
  · split at h
    · cases h
    · rename_i L' hL
      split at h
      · injection h with h
        subst h
        exact decLoop_can hL
      · cases h
theorem decM_wf {l : List Int} {L : List Sl} (hb : Bys l) (h : decM l = some L) : ∀ x ∈ L, WfSl x := by
  unfold decM at h
  split at h
  · cases h
  · split at h
    · cases h
    · rename_i L' hL
      split at h
      · injection h with h
        subst h
        exact dec_wf hb hL
      · cases h
theorem doM_can {L : List Sl} {o : OpT} (hw : ∀ x ∈ L, WfSl x) (hc : ∀ x ∈ L, CanSl x) : ∀ x ∈ (doM L o).1, CanSl x := by
  have hset : ∀ (k : Nat) (y : Sl), CanSl y → ∀ x ∈ L.set k y, CanSl x := by
    intro k y hy x hx
    rcases List.mem_or_eq_of_mem_set hx with hx | rfl
    · exact hc x hx
    · exact hy
  unfold doM
  split
  · split
    · rename_i k hk
      split
      · rename_i x hx
        refine hset _ _ ⟨fun _ => ?_, fun h => absurd h (by simp)⟩
        have := (hw x (List.mem_of_getElem? hx)).1.1
        simp only
        omega
      · exact hc
    · exact hc
  · split
    · split
      · rename_i hg
        obtain ⟨k, x, hk, hx, hu, hxg, _⟩ := good_slot hg
        rw [hk, Int.toNat_natCast, hx]
        have h1 := (hc x (List.mem_of_getElem? hx)).1 hu
        simp only
        split
        · exact hc
        · split
          · exact hset _ _ ⟨fun _ => by rw [← hxg]; exact h1, fun h => absurd h (by simp)⟩
          · exact hset _ _ ⟨fun h => absurd h (by simp), fun _ => rfl⟩
      · exact hc
    · exact hc
theorem runM_all {os : List OpT} (ho : ∀ o ∈ os, WfOp o) : ∀ {L : List Sl}, (∀ x ∈ L, WfSl x) → (∀ x ∈ L, CanSl x) → (∀ x ∈ runM L os, WfSl x) ∧ (∀ x ∈ runM L os, CanSl x) ∧ (runM L os).length = L.length := by
  induction os with
  | nil => intro L hw hc; exact ⟨hw, hc, rfl⟩
  | cons o os ih =>
    intro L hw hc
    obtain ⟨h1, h2, h3⟩ := ih (fun o ho' => ho o (List.mem_cons_of_mem _ ho')) (doM_wf (o := o) hw (ho o List.mem_cons_self)) (doM_can (o := o) hw hc)
    exact ⟨h1, h2, h3.trans (doM_len L o)⟩
end Go.Proofs.Ytbogfjadmiodkaa.Hand
