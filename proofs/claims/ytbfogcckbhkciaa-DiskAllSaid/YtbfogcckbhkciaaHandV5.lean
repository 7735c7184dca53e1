/- What a claim needs of the walks and contracts, part 5. -/
import Derived.Test.YtbfogcckbhkciaaProg
import Derived.WalkKit
import Derived.WalkSpells
import Derived.Below
import Derived.OwnWalk
import Derived.BigFrame
import Derived.KernelRfl
import Derived.LoopTactic
import Derived.Outline
import Derived.Laws.BitsAllLaws
import Derived.Deep.QuietTactic
import Derived.Deep.RegionHeld
import Derived.Test.YtbfogcckbhkciaaHandV4
namespace Go.Proofs.Ytbfogcckbhkciaa.Hand
open Go.RowKit Go.Maps Go.Proofs.YtbfogcckbhkciaaW.PrintWords Go.Proofs.YtbfogcckbhkciaaW.PrintLast Go.Proofs.YtbfogcckbhkciaaW.PrintMore Go.Proofs.Ytbfogcckbhkciaa.PHandRP
set_option linter.unusedVariables false
set_option linter.unusedSimpArgs false
/-- A device's word, as the document has it. -/
def wdS (d : Dev) (k : Nat) : S164 := ⟨strOfNums (word d.B k), strOfNums ((d.S k).getD (word d.B k)), (d.S k).isSome, d.F k⟩
def wdL (d : Dev) (n : Nat) : List S164 := (List.range n).map (wdS d)
theorem wdL_length (d : Dev) (n : Nat) : (wdL d n).length = n := by simp [wdL]
theorem wdL_get {d : Dev} {n j : Nat} (h : j < n) : (wdL d n)[j]? = some (wdS d j) := by simp [wdL, h]
theorem wdL_rd {d : Dev} {n j : Nat} (h : j < n) : rd_T164 (wdL d n) (j : Int) = wdS d j := by
  rw [rd_T164, Int.toNat_natCast, List.getD_eq_getElem?_getD, wdL_get h]
  rfl
theorem wdL_congr {d d' : Dev} {n : Nat} (h : ∀ k, k < n → wdS d k = wdS d' k) : wdL d n = wdL d' n := List.map_congr_left (fun k hk => h k (List.mem_range.1 hk))
theorem wrap_suc {j n : Nat} (h : j < n) (hn : n ≤ 8192) : wrap64 ((j : Int) + 1) = ((j + 1 : Nat) : Int) := by rw [IntWalk.wrap64_in _ (by omega)]; omega
theorem take_word {B : List Int} {j : Nat} : B.take (8 * j) ++ word B j = B.take (8 * (j + 1)) := by
  rw [word, cut, show 8 * (j + 1) = 8 * j + 8 by omega, List.take_add]
theorem r3bytes_f {d : Dev} {n : Nat} (hl : d.B.length = 8 * n) (hn : n ≤ 8192) : ∀ m j, m = n - j → j ≤ n → ecdysisref03_Bytes.l0 (m + 1) (wdL d n) (strOfNums (d.B.take (8 * j))) (j : Int) = some (strOfNums d.B)
  | 0, j, hm, hj => by
    obtain rfl : j = n := by omega
    rw [ecdysisref03_Bytes.l0, if_neg (by rw [wdL_length]; omega), List.take_of_length_le (by omega)]
  | m + 1, j, hm, hj => by
    have h1 : (word d.B j).length = 8 := word_length (by omega)
    have h2 : (d.B.take (8 * j)).length = 8 * j := by rw [List.length_take]; omega
    rw [ecdysisref03_Bytes.l0, if_pos (by rw [wdL_length]; omega), if_pos (by omega), wdL_rd (by omega), if_pos (by simp only [wdS, strOfNums_size, h1, h2]; omega), wrap_suc (n := n) (by omega) hn]
    simp only [wdS]
    rw [str_app, take_word]
    exact r3bytes_f hl hn m (j + 1) (by omega) (by omega)
theorem r3loose_f {d : Dev} {n : Nat} (hn : n ≤ 8192) : ∀ m j, m = n - j → j ≤ n →
    ecdysisref03_Loose.l0 (m + 1) (wdL d n) (((List.range j).filter fun k => (d.S k).isSome).map fun (k : Nat) => (k : Int)) (j : Int) = some (((List.range n).filter fun k => (d.S k).isSome).map fun (k : Nat) => (k : Int))
  | 0, j, hm, hj => by
    obtain rfl : j = n := by omega
    rw [ecdysisref03_Loose.l0, if_neg (by rw [wdL_length]; omega)]
  | m + 1, j, hm, hj => by
    have hlen : (((List.range j).filter fun k => (d.S k).isSome).map fun (k : Nat) => (k : Int)).length ≤ j := by
      rw [List.length_map]
      exact Nat.le_trans (List.length_filter_le _ _) (by simp)
    have ih := r3loose_f (d := d) hn m (j + 1) (by omega) (by omega)
    rw [List.range_succ, List.filter_append, List.map_append] at ih
    rw [ecdysisref03_Loose.l0, if_pos (by rw [wdL_length]; omega), if_pos (by omega), wdL_rd (by omega), wrap_suc (n := n) (by omega) hn]
    by_cases hs : (d.S j).isSome = true
    · rw [if_pos (by exact hs), if_pos (by omega)]
      simpa [hs] using ih
    · rw [if_neg (by exact hs)]
      simpa [hs] using ih
theorem r3inside_f {d : Dev} {n : Nat} (hl : d.B.length = 8 * n) (hn : n ≤ 8192) (a m : Int) : ecdysisref03_Inside.f (wdL d n) a m = some (insE d.B.length a m) := by
  rw [ecdysisref03_Inside.f, wdL_length, IntWalk.wrap64_in (8 * (n : Int)) (by omega), insE, hl]
  by_cases h1 : m < 0
  · rw [if_pos h1, if_pos h1]
  · rw [if_neg h1, if_neg h1]
    by_cases h2 : a < 0
    · rw [if_pos h2, if_pos (.inl h2)]
    · rw [if_neg h2]
      by_cases h3 : a > 8 * n
      · rw [if_pos h3, if_pos (by omega)]
      · rw [if_neg h3, IntWalk.wrap64_in _ (by omega)]
        by_cases h4 : m > 8 * n - a
        · rw [if_pos h4, if_pos (by omega)]
        · rw [if_neg h4, if_neg (by omega)]
theorem r3has_f {l : List Int} (hl : l.length ≤ 9223372036854775807) (x : Int) : ∀ m j, m = l.length - j → j ≤ l.length → (∀ i, i < j → rd l i ≠ x) → ecdysisref03_has.l0 (m + 1) l x (j : Int) = some (decide (x ∈ l))
  | 0, j, hm, hj, ho => by
    obtain rfl : j = l.length := by omega
    rw [ecdysisref03_has.l0, if_neg (by omega)]
    refine congrArg some (decide_eq_false (fun hx => ?_)).symm
    obtain ⟨i, hi, e⟩ := List.getElem_of_mem hx
    refine ho i hi ?_
    rw [rd, Int.toNat_natCast, List.getD_eq_getElem?_getD, List.getElem?_eq_getElem hi]
    exact e
  | m + 1, j, hm, hj, ho => by
    rw [ecdysisref03_has.l0, if_pos (by omega), if_pos (by omega)]
    by_cases he : rd l (j : Int) = x
    · rw [if_pos he]
      refine congrArg some (decide_eq_true ?_).symm
      rw [← he, rd, Int.toNat_natCast, List.getD_eq_getElem?_getD, List.getElem?_eq_getElem (by omega)]
      exact List.getElem_mem _
    · rw [if_neg he, IntWalk.wrap64_in _ (by omega), show ((j : Int) + 1) = ((j + 1 : Nat) : Int) by omega]
      refine r3has_f hl x m (j + 1) (by omega) (by omega) (fun i hi => ?_)
      by_cases h : i = j
      · rw [h]; exact he
      · exact ho i (by omega)
theorem r3new_l {B : List Int} {n : Nat} (hl : B.length = 8 * n) (hn : n ≤ 8192) : ∀ m j, m = n - j → j ≤ n → ecdysisref03_New.l0 (m + 1) (strOfNums B) (wdL (Dev.of B) j) ((8 * j : Nat) : Int) = some (wdL (Dev.of B) n, true)
  | 0, j, hm, hj => by
    obtain rfl : j = n := by omega
    rw [ecdysisref03_New.l0, if_neg (by rw [strOfNums_size]; omega)]
  | m + 1, j, hm, hj => by
    have hw : wrap64 (((8 * j : Nat) : Int) + 8) = ((8 * (j + 1) : Nat) : Int) := by rw [IntWalk.wrap64_in _ (by omega)]; omega
    have hx : (strOfNums B).extract (((8 * j : Nat) : Int)).toNat (((8 * (j + 1) : Nat) : Int)).toNat = strOfNums (word B j) := by
      rw [str_extract, Int.toNat_natCast, Int.toNat_natCast, word, cut, show 8 * (j + 1) = 8 * j + 8 by omega, List.drop_take, show 8 * j + 8 - 8 * j = 8 by omega]
    rw [ecdysisref03_New.l0, hw, if_pos (by rw [strOfNums_size]; omega), if_pos (by omega), if_pos (by omega), if_pos (by rw [strOfNums_size]; omega), wdL_length, if_pos (by omega), hx]
    have := r3new_l hl hn m (j + 1) (by omega) (by omega)
    rw [wdL, List.range_succ, List.map_append] at this
    exact this
theorem word_set {B : List Int} {a j : Nat} {x : Int} (ha : a < B.length) : word (B.set a x) j = if j = a / 8 then (word B j).set (a % 8) x else word B j := by
  apply List.ext_getElem?
  intro i
  rw [word, cut, word, cut]
  by_cases hi : i < 8
  · rw [List.getElem?_take_of_lt hi, List.getElem?_drop]
    by_cases hj : j = a / 8
    · rw [if_pos hj]
      by_cases he : a = 8 * j + i
      · rw [← he, List.getElem?_set_self ha, show a % 8 = i by omega, List.getElem?_set_self (by rw [List.length_take, List.length_drop]; omega)]
      · rw [List.getElem?_set_ne he, List.getElem?_set_ne (by omega), List.getElem?_take_of_lt hi, List.getElem?_drop]
    · rw [if_neg hj, List.getElem?_set_ne (by omega), List.getElem?_take_of_lt hi, List.getElem?_drop]
  · rw [List.getElem?_take_eq_none (by omega)]
    split
    · rw [List.getElem?_set, if_neg (by omega), List.getElem?_take_eq_none (by omega)]
    · rw [List.getElem?_take_eq_none (by omega)]
theorem hit_one (a j : Nat) : hitB a 1 j = decide (j = a / 8) := by
  rw [hitB]
  exact decide_eq_decide.2 (by omega)
theorem write_one {d : Dev} {a : Nat} {x : Int} (ha : a < d.B.length) (j : Nat) : wdS (d.write a [x]) j = if j = a / 8 then ⟨strOfNums ((word d.B j).set (a % 8) x), strOfNums ((d.S j).getD (word d.B j)), true, false⟩ else wdS d j := by
  have hB : (d.write a [x]).B = d.B.set a x := by rw [Dev.write, List.set_eq_take_append_cons_drop, if_pos ha]; rfl
  have hS : (d.write a [x]).S j = if j = a / 8 then some ((d.S j).getD (word d.B j)) else d.S j := by
    simp only [Dev.write, List.length_singleton, hit_one, decide_eq_true_eq]
  have hF : (d.write a [x]).F j = (d.F j && !decide (j = a / 8)) := by simp only [Dev.write, List.length_singleton, hit_one]
  rw [wdS, hB, hS, hF, word_set ha]
  by_cases hj : j = a / 8
  · simp [hj]
  · simp [hj, wdS]
theorem r3write_f {d : Dev} {n : Nat} (hl : d.B.length = 8 * n) (hn : n ≤ 8192) {a : Nat} (ha : a < 8 * n) (x : Int) : ecdysisref03_write.f (wdL d n) (a : Int) x = some (wdL (d.write a [x]) n) := by
  have hw : wrap64 (Int.tdiv (a : Int) 8) = ((a / 8 : Nat) : Int) := by
    rw [Int.tdiv_eq_ediv_of_nonneg (by omega), IntWalk.wrap64_in _ (by omega)]
    omega
  have hr : Int.tmod (a : Int) 8 = ((a % 8 : Nat) : Int) := by
    rw [Int.tmod_eq_emod_of_nonneg (by omega)]
    omega
  have hr1 : wrap64 (((a % 8 : Nat) : Int) + 1) = ((a % 8 + 1 : Nat) : Int) := by rw [IntWalk.wrap64_in _ (by omega)]; omega
  have h8 : (word d.B (a / 8)).length = 8 := word_length (by omega)
  rw [ecdysisref03_write.f]
  simp only [Option.bind_some, hw, hr, hr1, wdL_rd (d := d) (n := n) (j := a / 8) (by omega), wdS, wdL_length, List.nil_append, List.length_nil, Int.toNat_natCast, str_extract, str_app, strOfNums_size, h8]
  rw [if_pos (by omega), if_pos (by omega), if_pos (by omega), if_pos (by omega), if_pos (by omega), if_pos (by simp; omega), if_pos (by omega), if_pos (by omega), if_pos (by simp; omega), if_pos (by omega)]
  refine congrArg some ?_
  apply List.ext_getElem?
  intro j
  by_cases hj : j < n
  · rw [wdL_get hj, write_one (by omega)]
    by_cases he : j = a / 8
    · rw [if_pos he, he, List.getElem?_set_self (by rw [wdL_length]; omega)]
      refine congrArg some ?_
      have e1 : ((word d.B (a / 8)).take (a % 8)).drop 0 ++ [x] ++ ((word d.B (a / 8)).take 8).drop (a % 8 + 1) = (word d.B (a / 8)).set (a % 8) x := by
        rw [List.set_eq_take_append_cons_drop, if_pos (by omega), List.drop_zero, List.take_of_length_le (l := word d.B (a / 8)) (i := 8) (by omega), List.append_assoc]
        rfl
      rw [e1]
    · rw [if_neg he, List.getElem?_set_ne (by omega), wdL_get hj]
  · rw [List.getElem?_eq_none (by rw [List.length_set, wdL_length]; omega), List.getElem?_eq_none (by rw [wdL_length]; omega)]
theorem write_nil (d : Dev) (a n : Nat) : wdL (d.write a []) n = wdL d n := by
  refine wdL_congr (fun k hk => ?_)
  have hB : (d.write a []).B = d.B := by simp [Dev.write]
  have hh : hitB a 0 k = false := by rw [hitB]; exact decide_eq_false (by omega)
  simp [wdS, hB, Dev.write, hh]
theorem word_miss {B l : List Int} {a k : Nat} (ha : a + l.length ≤ B.length) (h : 8 * k + 8 ≤ a ∨ a + l.length ≤ 8 * k) : word (B.take a ++ (l ++ B.drop (a + l.length))) k = word B k := by
  apply List.ext_getElem?
  intro i
  rw [word, cut, word, cut]
  by_cases hi : i < 8
  · rw [List.getElem?_take_of_lt hi, List.getElem?_take_of_lt hi, List.getElem?_drop, List.getElem?_drop]
    rcases h with h | h
    · rw [List.getElem?_append_left (by rw [List.length_take]; omega), List.getElem?_take_of_lt (by omega)]
    · rw [List.getElem?_append_right (by rw [List.length_take]; omega), List.length_take, Nat.min_eq_left (by omega), List.getElem?_append_right (by omega), List.getElem?_drop]
      congr 1
      omega
  · rw [List.getElem?_take_eq_none (by omega), List.getElem?_take_eq_none (by omega)]
theorem hit_snoc (a m k : Nat) : hitB a (m + 1) k = (hitB a m k || decide (k = (a + m) / 8)) := by
  rw [hitB, hitB, ← Bool.decide_or]
  exact decide_eq_decide.2 (by omega)
theorem write_snoc {d : Dev} {a n : Nat} {l : List Int} {x : Int} (hl : d.B.length = 8 * n) (h : a + l.length < d.B.length) : wdL ((d.write a l).write (a + l.length) [x]) n = wdL (d.write a (l ++ [x])) n := by
  refine wdL_congr (fun k hk => ?_)
  have hP : (d.B.take a ++ l).length = a + l.length := by rw [List.length_append, List.length_take]; omega
  have hB : ((d.write a l).write (a + l.length) [x]).B = (d.write a (l ++ [x])).B := by
    simp only [Dev.write, List.length_append, List.length_singleton]
    rw [← List.append_assoc (d.B.take a) l, List.take_left' hP, ← List.drop_drop (i := 1) (j := a + l.length), List.drop_left' hP, List.drop_drop]
    simp only [List.append_assoc]
    rw [Nat.add_assoc a]
  have e1 := hit_one (a + l.length) k
  have e2 := hit_snoc a l.length k
  have hS : ((d.write a l).write (a + l.length) [x]).S k = (d.write a (l ++ [x])).S k := by
    simp only [Dev.write, List.length_append, List.length_singleton, e1, e2, Bool.or_eq_true, decide_eq_true_eq]
    by_cases h1 : hitB a l.length k = true
    · by_cases h2 : k = (a + l.length) / 8
      · rw [if_pos h2, if_pos h1, if_pos (.inl h1)]
        rfl
      · rw [if_neg h2, if_pos h1, if_pos (.inl h1)]
    · by_cases h2 : k = (a + l.length) / 8
      · rw [if_pos h2, if_neg h1, if_pos (.inr h2)]
        have hm : word (d.B.take a ++ (l ++ d.B.drop (a + l.length))) k = word d.B k := by
          by_cases h0 : l = []
          · subst h0
            simp
          · have := List.length_pos_iff.2 h0
            rw [hitB, decide_eq_true_eq] at h1
            exact word_miss (by omega) (by omega)
        rw [hm]
      · rw [if_neg h2, if_neg h1, if_neg (fun h => h.elim h1 h2)]
  have hF : ((d.write a l).write (a + l.length) [x]).F k = (d.write a (l ++ [x])).F k := by
    simp only [Dev.write, List.length_append, List.length_singleton, e1, e2, Bool.not_or, Bool.and_assoc]
  simp [wdS, hB, hS, hF]
end Go.Proofs.Ytbfogcckbhkciaa.Hand
namespace Go.Proofs.Ytbfogcckbhkciaa.Hand
open Go.RowKit Go.Maps Go.Proofs.YtbfogcckbhkciaaW.PrintWords Go.Proofs.YtbfogcckbhkciaaW.PrintLast Go.Proofs.YtbfogcckbhkciaaW.PrintMore Go.Proofs.Ytbfogcckbhkciaa.PHandRP Go.Proofs.Ytbfogcckbhkciaa.PHandRD
set_option linter.unusedVariables false
set_option linter.unusedSimpArgs false
theorem r3has_more {l : List Int} (hl : l.length ≤ 9223372036854775807) (x : Int) : ∀ m j, l.length - j ≤ m → j ≤ l.length → (∀ i, i < j → rd l i ≠ x) → ecdysisref03_has.l0 (m + 1) l x (j : Int) = some (decide (x ∈ l)) := by
  intro m
  induction m with
  | zero => exact fun j hm hj ho => r3has_f hl x 0 j (by omega) hj ho
  | succ m ih =>
    intro j hm hj ho
    by_cases h : j = l.length
    · subst h
      rw [ecdysisref03_has.l0, if_neg (by omega)]
      have := r3has_f hl x 0 l.length (by omega) (by omega) ho
      rw [ecdysisref03_has.l0, if_neg (by omega)] at this
      exact this
    · rw [ecdysisref03_has.l0, if_pos (by omega), if_pos (by omega)]
      by_cases he : rd l (j : Int) = x
      · rw [if_pos he]
        refine congrArg some (decide_eq_true ?_).symm
        rw [← he, rd, Int.toNat_natCast, List.getD_eq_getElem?_getD, List.getElem?_eq_getElem (by omega)]
        exact List.getElem_mem _
      · rw [if_neg he, IntWalk.wrap64_in _ (by omega), show ((j : Int) + 1) = ((j + 1 : Nat) : Int) by omega]
        refine ih (j + 1) (by omega) (by omega) (fun i hi => ?_)
        by_cases h2 : i = j
        · rw [h2]; exact he
        · exact ho i (by omega)
theorem r3has_any {l : List Int} (hl : l.length ≤ 9223372036854775807) (x : Int) {k : Nat} (hk : l.length < k) : ecdysisref03_has.f k l x = some (decide (x ∈ l)) := by
  obtain ⟨m, rfl⟩ : ∃ m, k = m + 1 := ⟨k - 1, by omega⟩
  exact r3has_more hl x m 0 (by omega) (by omega) (fun i hi => absurd hi (Nat.not_lt_zero _))
abbrev S3 := S164
/-- What a round makes of a word. -/
def wdG (z a m : Int) (ks : List Int) (i : Nat) (x : S3) : S3 :=
  if z = 2 then ⟨x.f0, x.f1, x.f2, x.f3 || (decide (0 < m ∧ 8 * (i : Int) < a + m ∧ a < 8 * i + 8) && x.f2)⟩
  else if z = 3 then (if x.f3 = true then ⟨x.f0, x.f0, false, false⟩ else x)
  else if z = 4 then (if x.f2 = true ∧ (i : Int) ∉ ks then ⟨x.f1, x.f1, false, false⟩ else ⟨x.f0, x.f0, false, false⟩)
  else x
theorem r3round {X : List S3} {i : Nat} (hi : i < X.length) (hX : X.length ≤ 8192) {x : S3} (hx : rd_T164 X (i : Int) = x) {z a m : Int} (ha : z = 2 → 0 ≤ a ∧ 0 ≤ m ∧ a + m ≤ 65536) (lg : Int) (bs ks : List Int) (hks : ks.length ≤ 9223372036854775807) {k : Nat} (hk : ks.length + 2 < k) :
    ecdysisref03_Do.l1 (k + 6) m X (i : Int) z a lg bs ks = ecdysisref03_Do.l1 k m (X.set i (wdG z a m ks i x)) ((i + 1 : Nat) : Int) z a lg bs ks := by
  have h1 : (i : Int) < (X.length : Int) := by omega
  have h0 : (0 : Int) ≤ (i : Int) := by omega
  have hw : wrap64 ((i : Int) + 1) = ((i + 1 : Nat) : Int) := wrap_suc hi hX
  have hw8 : wrap64 (8 * (i : Int)) = 8 * i := IntWalk.wrap64_in _ (by omega)
  have hw9 : wrap64 (8 * (i : Int) + 8) = 8 * i + 8 := IntWalk.wrap64_in _ (by omega)
  obtain ⟨x0, x1, x2, x3⟩ := x
  by_cases z2 : z = 2
  · obtain ⟨ha0, hm0, ham⟩ := ha z2
    have hwa : wrap64 (a + m) = a + m := IntWalk.wrap64_in _ (by omega)
    subst z2
    by_cases c1 : 0 < m
    · by_cases c2 : 8 * (i : Int) < a + m
      · by_cases c3 : a < 8 * (i : Int) + 8
        · cases x2 <;> cases x3 <;> simp [ecdysisref03_Do.l1, ecdysisref03_Do.j6, ecdysisref03_Do.j7, ecdysisref03_Do.j8, ecdysisref03_Do.j9, ecdysisref03_Do.j10, h1, h0, hw, hw8, hw9, hwa, hx, wdG, c1, c2, c3]
        · cases x2 <;> cases x3 <;> simp [ecdysisref03_Do.l1, ecdysisref03_Do.j6, ecdysisref03_Do.j7, ecdysisref03_Do.j8, ecdysisref03_Do.j9, ecdysisref03_Do.j10, h1, h0, hw, hw8, hw9, hwa, hx, wdG, c1, c2, c3]
      · cases x2 <;> cases x3 <;> simp [ecdysisref03_Do.l1, ecdysisref03_Do.j6, ecdysisref03_Do.j7, ecdysisref03_Do.j8, ecdysisref03_Do.j9, ecdysisref03_Do.j10, h1, h0, hw, hw8, hw9, hwa, hx, wdG, c1, c2]
    · cases x2 <;> cases x3 <;> simp [ecdysisref03_Do.l1, ecdysisref03_Do.j6, ecdysisref03_Do.j7, ecdysisref03_Do.j8, ecdysisref03_Do.j9, ecdysisref03_Do.j10, h1, h0, hw, hw8, hw9, hwa, hx, wdG, c1]
  · by_cases z3 : z = 3
    · subst z3
      cases x2 <;> cases x3 <;> simp [ecdysisref03_Do.l1, ecdysisref03_Do.j6, ecdysisref03_Do.j7, ecdysisref03_Do.j8, ecdysisref03_Do.j9, ecdysisref03_Do.j10, h1, h0, hw, hx, wdG]
    · by_cases z4 : z = 4
      · subst z4
        have hh := r3has_any hks (i : Int) (k := k + 1) (by omega)
        have hh2 := r3has_any hks (i : Int) (k := k + 2) (by omega)
        by_cases c : (i : Int) ∈ ks
        · cases x2 <;> cases x3 <;> simp [ecdysisref03_Do.l1, ecdysisref03_Do.j6, ecdysisref03_Do.j7, ecdysisref03_Do.j8, ecdysisref03_Do.j9, ecdysisref03_Do.j10, h1, h0, hw, hx, wdG, hh, hh2, c]
        · cases x2 <;> cases x3 <;> simp [ecdysisref03_Do.l1, ecdysisref03_Do.j6, ecdysisref03_Do.j7, ecdysisref03_Do.j8, ecdysisref03_Do.j9, ecdysisref03_Do.j10, h1, h0, hw, hx, wdG, hh, hh2, c]
      · cases x2 <;> cases x3 <;> simp [ecdysisref03_Do.l1, ecdysisref03_Do.j6, ecdysisref03_Do.j7, ecdysisref03_Do.j8, ecdysisref03_Do.j9, ecdysisref03_Do.j10, h1, h0, hw, hx, wdG, z2, z3, z4]
/-- The words ahead of i as those of d', the others as those of d. -/
def wdM (d d' : Dev) (n i : Nat) : List S3 := (List.range n).map (fun j => if j < i then wdS d' j else wdS d j)
theorem wdM_length (d d' : Dev) (n i : Nat) : (wdM d d' n i).length = n := by simp [wdM]
theorem wdM_rd {d d' : Dev} {n i : Nat} (h : i < n) : rd_T164 (wdM d d' n i) (i : Int) = wdS d i := by
  rw [rd_T164, Int.toNat_natCast, List.getD_eq_getElem?_getD, wdM]
  simp [h]
theorem wdM_succ {d d' : Dev} {n i : Nat} (h : i < n) : (wdM d d' n i).set i (wdS d' i) = wdM d d' n (i + 1) := by
  apply List.ext_getElem?
  intro j
  by_cases hj : j = i
  · subst hj
    rw [List.getElem?_set_self (by rw [wdM_length]; exact h)]
    simp [wdM, h]
  · rw [List.getElem?_set_ne (by omega)]
    by_cases hn : j < n
    · simp only [wdM, List.getElem?_map, List.getElem?_range hn, Option.map_some]
      by_cases hi : j < i
      · rw [if_pos hi, if_pos (by omega)]
      · rw [if_neg hi, if_neg (by omega)]
    · rw [List.getElem?_eq_none (by rw [wdM_length]; omega), List.getElem?_eq_none (by rw [wdM_length]; omega)]
theorem wdM_zero (d d' : Dev) (n : Nat) : wdM d d' n 0 = wdL d n := List.map_congr_left (fun j _ => by rw [if_neg (Nat.not_lt_zero _)])
theorem wdM_full (d d' : Dev) (n : Nat) : wdM d d' n n = wdL d' n := List.map_congr_left (fun j hj => by rw [if_pos (List.mem_range.1 hj)])
theorem r3l1 {d d' : Dev} {n : Nat} (hn : n ≤ 8192) {z a m : Int} (ha : z = 2 → 0 ≤ a ∧ 0 ≤ m ∧ a + m ≤ 65536) (lg : Int) (bs ks : List Int) (hks : ks.length ≤ 9223372036854775807) (hG : ∀ i, i < n → wdG z a m ks i (wdS d i) = wdS d' i) :
    ∀ q i, q = n - i → i ≤ n → ecdysisref03_Do.l1 (6 * q + (ks.length + 10)) m (wdM d d' n i) (i : Int) z a lg bs ks = some (wdL d' n, ⟨#[]⟩, 0)
  | 0, i, hq, hi => by
    obtain rfl : i = n := by omega
    rw [show 6 * 0 + (ks.length + 10) = (ks.length + 9) + 1 by omega, ecdysisref03_Do.l1, if_neg (by rw [wdM_length]; omega), wdM_full]
  | q + 1, i, hq, hi => by
    rw [show 6 * (q + 1) + (ks.length + 10) = (6 * q + (ks.length + 10)) + 6 by omega, r3round (by rw [wdM_length]; omega) (by rw [wdM_length]; exact hn) (wdM_rd (by omega)) ha lg bs ks hks (by omega), hG i (by omega), wdM_succ (by omega)]
    exact r3l1 hn ha lg bs ks hks hG q (i + 1) (by omega) (by omega)
theorem r3j4 {d d' : Dev} {n : Nat} (hn : n ≤ 8192) {z a m : Int} (ha : z = 2 → 0 ≤ a ∧ 0 ≤ m ∧ a + m ≤ 65536) (lg : Int) (bs ks : List Int) (hks : ks.length ≤ 9223372036854775807) (hG : ∀ i, i < n → wdG z a m ks i (wdS d i) = wdS d' i) :
    ecdysisref03_Do.j4 (6 * n + (ks.length + 11)) (wdL d n) m z a lg bs ks = some (wdL d' n, ⟨#[]⟩, 0) := by
  rw [show 6 * n + (ks.length + 11) = (6 * n + (ks.length + 10)) + 1 by omega, ecdysisref03_Do.j4]
  simp only [Option.bind_some, List.nil_append, List.length_nil]
  rw [if_pos (by rw [wdL_length]; omega), ← wdM_zero d d' n]
  exact r3l1 hn ha lg bs ks hks hG n 0 (by omega) (by omega)
theorem r3l0 {d : Dev} {n : Nat} (hl : d.B.length = 8 * n) (hn : n ≤ 8192) {a : Nat} (lg : Int) {bs : List Int} (ks : List Int) (hin : a + bs.length ≤ 8 * n) (K : Nat) (R : List S3 × ByteArray × Int)
    (hJ : ecdysisref03_Do.j4 K (wdL (d.write a bs) n) (bs.length : Int) 0 (a : Int) lg bs ks = some R) (q : Nat) :
    ∀ j, q = bs.length - j → j ≤ bs.length → ecdysisref03_Do.l0 (K + q + 1) (wdL (d.write a (bs.take j)) n) (bs.length : Int) (j : Int) 0 (a : Int) lg bs ks = some R := by
  induction q with
  | zero =>
    intro j hq hj
    have e : bs.take j = bs := List.take_of_length_le (by omega)
    have h1 : ¬ ((j : Int) < (bs.length : Int)) := by omega
    rw [e]
    unfold ecdysisref03_Do.l0
    rw [if_neg h1]
    exact hJ
  | succ q ih =>
    intro j hq hj
    have hlt : j < bs.length := by omega
    have hlen : (bs.take j).length = j := by rw [List.length_take]; omega
    have hw : wrap64 ((a : Int) + j) = ((a + j : Nat) : Int) := by rw [IntWalk.wrap64_in _ (by omega)]; omega
    have hw1 : wrap64 ((j : Int) + 1) = ((j + 1 : Nat) : Int) := by rw [IntWalk.wrap64_in _ (by omega)]; omega
    have hrd : rd bs (j : Int) = bs[j] := by rw [rd, Int.toNat_natCast, List.getD_eq_getElem?_getD, List.getElem?_eq_getElem hlt]; rfl
    have hwl : (d.write a (bs.take j)).B.length = 8 * n := by rw [Dev.write]; exact (splice_length (by omega)).trans hl
    have hwf := r3write_f hwl hn (a := a + j) (by omega) bs[j]
    have hsn := write_snoc (d := d) (a := a) (n := n) (l := bs.take j) (x := bs[j]) hl (by omega)
    rw [hlen, List.take_append_getElem hlt] at hsn
    have h1 : (j : Int) < (bs.length : Int) := by omega
    have h2 : (0 : Int) ≤ (j : Int) := by omega
    have := ih (j + 1) (by omega) (by omega)
    unfold ecdysisref03_Do.l0
    rw [if_pos h1, if_pos h2, if_pos h1, hw, hrd, hwf, Option.bind_some, hw1, hsn]
    exact this
/-- What Do makes of the words of a device. -/
theorem r3do_f {d : Dev} {n : Nat} (hd : d.Ok) (hl : d.B.length = 8 * n) (x : OpP) (hz : x.z ≠ 1) (hks : x.ks.length ≤ 9223372036854775807) : ∃ k t e, ecdysisref03_Do.f k (wdL d n) x.z x.at_ x.long x.bs x.ks = some (wdL (stepD d x) n, t, e) := by
  have hn : n ≤ 8192 := by have := hd.max; omega
  obtain ⟨z, a, lg, A1, c1, bs, A2, c2, ks⟩ := x
  simp only at hz hks ⊢
  have hbsE : insE d.B.length a bs.length = 0 → ∃ a' : Nat, a = a' ∧ a' + bs.length ≤ 8 * n := fun h => by
    obtain ⟨_, h2, h3⟩ := ins_ok h
    obtain ⟨a', rfl⟩ := Int.eq_ofNat_of_zero_le h2
    exact ⟨a', rfl, by omega⟩
  by_cases z0 : z = 0
  · subst z0
    by_cases he : insE d.B.length a bs.length = 0
    · obtain ⟨a', rfl, hin⟩ := hbsE he
      have hst : stepD d ⟨0, (a' : Int), lg, A1, c1, bs, A2, c2, ks⟩ = d.write a' bs := by simp only [stepD]; rw [if_pos trivial, if_pos he, Int.toNat_natCast]
      have h0 := r3l0 hl hn lg ks hin _ _ (r3j4 (d := d.write a' bs) (d' := d.write a' bs) hn (z := 0) (a := a') (m := (bs.length : Int)) (fun h => absurd h (by decide)) lg bs ks hks (fun i hi => by simp [wdG])) bs.length 0 (by omega) (Nat.zero_le _)
      rw [List.take_zero, write_nil] at h0
      refine ⟨(6 * n + (ks.length + 11)) + bs.length + 1 + 3, ⟨#[]⟩, 0, ?_⟩
      rw [hst, ecdysisref03_Do.f, if_pos rfl, ecdysisref03_Do.j0, if_pos (by decide), ecdysisref03_Do.j1, if_pos (by decide), r3inside_f hl hn, he, Option.bind_some, if_pos rfl, ecdysisref03_Do.j2, if_pos rfl]
      exact h0
    · have hst : stepD d ⟨0, a, lg, A1, c1, bs, A2, c2, ks⟩ = d := by simp only [stepD]; rw [if_pos trivial, if_neg he]
      refine ⟨3, ⟨#[]⟩, insE d.B.length a bs.length, ?_⟩
      rw [hst, ecdysisref03_Do.f, if_pos rfl, ecdysisref03_Do.j0, if_pos (by decide), ecdysisref03_Do.j1, if_pos (by decide), r3inside_f hl hn, Option.bind_some, if_neg he]
  · by_cases z2 : z = 2
    · subst z2
      by_cases he : insE d.B.length a lg = 0
      · obtain ⟨h1, h2, h3⟩ := ins_ok he
        have hst : stepD d ⟨2, a, lg, A1, c1, bs, A2, c2, ks⟩ = d.flush a.toNat lg.toNat := by simp only [stepD]; rw [if_neg (by decide), if_pos trivial, if_pos he]
        have h0 := r3j4 (d := d) (d' := d.flush a.toNat lg.toNat) hn (z := 2) (a := a) (m := lg) (fun _ => ⟨h2, h1, by have := hd.max; omega⟩) lg bs ks hks (fun i hi => by
          have hh : hitB a.toNat lg.toNat i = decide (0 < lg ∧ 8 * (i : Int) < a + lg ∧ a < 8 * i + 8) := by rw [hitB]; exact decide_eq_decide.2 (by omega)
          simp [wdG, wdS, Dev.flush, hh])
        refine ⟨6 * n + (ks.length + 11) + 3, ⟨#[]⟩, 0, ?_⟩
        rw [hst, ecdysisref03_Do.f, if_neg z0, ecdysisref03_Do.j0, if_pos (by decide), ecdysisref03_Do.j1, if_pos (by decide), r3inside_f hl hn, he, Option.bind_some, if_pos rfl, ecdysisref03_Do.j2, if_neg z0, if_neg (by decide)]
        exact h0
      · have hst : stepD d ⟨2, a, lg, A1, c1, bs, A2, c2, ks⟩ = d := by simp only [stepD]; rw [if_neg (by decide), if_pos trivial, if_neg he]
        refine ⟨3, ⟨#[]⟩, insE d.B.length a lg, ?_⟩
        rw [hst, ecdysisref03_Do.f, if_neg z0, ecdysisref03_Do.j0, if_pos (by decide), ecdysisref03_Do.j1, if_pos (by decide), r3inside_f hl hn, Option.bind_some, if_neg he]
    · have hG : ∀ i, i < n → wdG z a lg ks i (wdS d i) = wdS (stepD d ⟨z, a, lg, A1, c1, bs, A2, c2, ks⟩) i := by
        intro i hi
        simp only [stepD]
        rw [if_neg z0, if_neg z2]
        by_cases z3 : z = 3
        · subst z3
          rw [if_pos rfl]
          cases hF : d.F i <;> simp [wdG, wdS, Dev.fence, hF]
        · rw [if_neg z3]
          by_cases z4 : z = 4
          · subst z4
            rw [if_pos rfl]
            have hw : word (d.crash ks).B i = d.lossW ks i := word_mapW (fun j hj => hd.lossW ks (by omega)) (by omega)
            have hS : (d.crash ks).S i = none := rfl
            have hF : (d.crash ks).F i = false := rfl
            rw [wdS, wdS, hw, hS, hF, Dev.lossW]
            cases hs : d.S i with
            | none => simp [wdG, hs]
            | some c =>
              by_cases hm : (i : Int) ∈ ks
              · simp [wdG, hs, hm]
              · simp [wdG, hs, hm]
          · rw [if_neg z4]
            simp [wdG, z2, z3, z4]
      have h0 := r3j4 (d := d) (d' := stepD d ⟨z, a, lg, A1, c1, bs, A2, c2, ks⟩) hn (z := z) (a := a) (m := lg) (fun h => absurd h z2) lg bs ks hks hG
      refine ⟨6 * n + (ks.length + 11) + 3, ⟨#[]⟩, 0, ?_⟩
      have h1 : ecdysisref03_Do.j1 (6 * n + (ks.length + 11) + 2) (wdL d n) lg false z a lg bs ks = some (wdL (stepD d ⟨z, a, lg, A1, c1, bs, A2, c2, ks⟩) n, ⟨#[]⟩, 0) := by
        rw [ecdysisref03_Do.j1, if_neg (by decide), ecdysisref03_Do.j2, if_neg z0, if_neg hz]
        exact h0
      rw [ecdysisref03_Do.f, if_neg z0, ecdysisref03_Do.j0]
      by_cases hz0 : z ≥ 0
      · rw [if_pos hz0, show decide (z ≤ 2) = false from decide_eq_false (by omega)]
        exact h1
      · rw [if_neg hz0]
        exact h1
end Go.Proofs.Ytbfogcckbhkciaa.Hand
namespace Go.Proofs.Ytbfogcckbhkciaa.Hand
open Go.RowKit Go.Maps Go.Proofs.YtbfogcckbhkciaaW.PrintWords Go.Proofs.YtbfogcckbhkciaaW.PrintLast Go.Proofs.YtbfogcckbhkciaaW.PrintMore Go.Proofs.Ytbfogcckbhkciaa.PHandRP Go.Proofs.Ytbfogcckbhkciaa.PHandRD Go.Proofs.Ytbfogcckbhkciaa.PHandRE
set_option linter.unusedVariables false
set_option linter.unusedSimpArgs false
/-- The words of a device in a row whose blocks are from b on. -/
abbrev RowV (w : World) (b : Nat) (v : Value) (d : Dev) (n : Nat) : Prop := Kd.V k164 164 w b (fun k => b ≤ k) v (wdL d n)
def DoesV (w : World) (p : Nat) (v : Value) (s f : Nat) (d : Dev) (e : Ending) (w' : World) : Prop := e = .returned (.tuple #[]) ∧ HasD w' p v s f d ∧ Fr (OwnD v s f) w w'
/-- What made leaves: nothing, or a device and the document's words of it. -/
def MadeW (w : World) (e : Ending) (w' : World) : Prop :=
  (e = .returned (.tuple #[.pointer none, .slice none 0 0, .bool false]) ∧ Below w.heap.size w w') ∨
  ∃ (p : Nat) (u : Value) (s f : Nat) (v : Value) (d : Dev) (n b : Nat), e = .returned (.tuple #[.pointer (some ⟨p, 0, none⟩), v, .bool true]) ∧ HasD w' p u s f d ∧ d.B.length = 8 * n ∧ RowV w' b v d n ∧
    (∀ k, OwnD u s f k → k < b) ∧ b ≤ w'.heap.size ∧ w.heap.size ≤ p ∧ (∀ k, OwnD u s f k → w.heap.size ≤ k) ∧ Below w.heap.size w w'
theorem r3new_calls (w : World) (B : List Int) {n : Nat} (hB : B.length = 8 * n) (hn : n ≤ 8192) :
    Calls Try.prog 74 #[.string (strOfNums B)] w fun e w' => ∃ v, e = .returned (.tuple #[v, .bool true]) ∧ RowV w' w.heap.size v (Dev.of B) n ∧ Below w.heap.size w w' := by
  have hf : ecdysisref03_New.f (n + 1 + 1) (strOfNums B) = some (wdL (Dev.of B) n, true) := by
    have h0 := r3new_l hB hn n 0 (by omega) (Nat.zero_le _)
    rw [ecdysisref03_New.f, strOfNums_size, if_pos (by omega), ecdysisref03_New.j0, if_neg (by simp; omega)]
    exact h0
  refine (ecdysisref03_New.calls _ _ _ _ w hf).mono ?_
  rintro e w' ⟨v, rfl, hr, hb⟩
  exact ⟨v, rfl, Kd.R_V (Kd.R_mono (Kd.R_bound hr) (fun k hk => hk.2.1)), hb⟩
theorem r3new_bad (w : World) (B : List Int) (h : B.length % 8 ≠ 0 ∨ 65536 < B.length) :
    Calls Try.prog 74 #[.string (strOfNums B)] w fun e w' => ∃ v, e = .returned (.tuple #[v, .bool false]) ∧ Below w.heap.size w w' := by
  have hf : ecdysisref03_New.f 1 (strOfNums B) = some ([], false) := by
    rw [ecdysisref03_New.f, strOfNums_size]
    by_cases h1 : ((B.length : Nat) : Int) % 8 = 0
    · rw [if_pos h1, ecdysisref03_New.j0, if_pos (by simp; omega)]
    · rw [if_neg h1, ecdysisref03_New.j0, if_pos rfl]
  refine (ecdysisref03_New.calls _ _ _ _ w hf).mono ?_
  rintro e w' ⟨v, rfl, hr, hb⟩
  exact ⟨v, rfl, hb⟩
theorem r3bytes_calls {w : World} {b n : Nat} {v : Value} {d : Dev} (h : RowV w b v d n) (hl : d.B.length = 8 * n) (hn : n ≤ 8192) :
    Calls Try.prog 59 #[v] w fun e w' => e = .returned (.string (strOfNums d.B)) ∧ Drawn0 w w' := by
  obtain ⟨A, c, rfl⟩ := Kd.V_slice h
  obtain ⟨_, hc, hC⟩ := Kd.V_reads' h
  exact ecdysisref03_Bytes.calls _ A c (wdL d n) _ w hC hc (r3bytes_f hl hn n 0 (by omega) (Nat.zero_le _))
theorem r3loose_calls {w : World} {b n : Nat} {v : Value} {d : Dev} (h : RowV w b v d n) (hl : d.B.length = 8 * n) (hn : n ≤ 8192) :
    Calls Try.prog 60 #[v] w fun e w' => ∃ u, e = .returned u ∧ Kd.R (Kd.int .i64) 3 w' w.heap.size (fun _ => True) u (looseM d) ∧ Below w.heap.size w w' := by
  obtain ⟨A, c, rfl⟩ := Kd.V_slice h
  obtain ⟨_, hc, hC⟩ := Kd.V_reads' h
  have h0 := r3loose_f (d := d) hn n 0 (by omega) (Nat.zero_le _)
  rw [show looseM d = ((List.range n).filter fun k => (d.S k).isSome).map fun (k : Nat) => (k : Int) from by rw [looseM, hl, Nat.mul_div_cancel_left _ (by decide)]]
  exact ecdysisref03_Loose.calls _ A c (wdL d n) _ w hC hc h0
theorem r3do_calls {w : World} {b n : Nat} {v : Value} {d : Dev} (hd : d.Ok) (hl : d.B.length = 8 * n) (h : RowV w b v d n) (hb : b ≤ w.heap.size) (x : OpP) (hx : WfPo w x) (hck : x.ks.length ≤ x.c2) (hz : x.z ≠ 1) :
    Calls Try.prog 58 #[v, .agg #[.int .i64 x.z, .int .i64 x.at_, .int .i64 x.long, .slice x.A1 x.bs.length x.c1, .slice x.A2 x.ks.length x.c2]] w fun e w' => ∃ (v' : Value) (t : ByteArray) (e2 : Int), e = .returned (.tuple #[v', .string t, .int .i64 e2]) ∧ RowV w' b v' (stepD d x) n ∧ Below w.heap.size w w' := by
  obtain ⟨A, c, rfl⟩ := Kd.V_slice h
  have hkl : x.ks.length ≤ 9223372036854775807 := by have := hx.rk.2.1; omega
  obtain ⟨k, t, e2, hf⟩ := r3do_f hd hl x hz hkl
  refine (ecdysisref03_Do.calls k (fun k => b ≤ k) A c (wdL d n) x.z x.at_ x.long x.A1 x.c1 x.bs x.A2 x.c2 x.ks _ _ _ w h (Kd.C_of_reads (d := (0 : Int)) hx.rb) hx.cb (Kd.C_of_reads (d := (0 : Int)) hx.rk) hck hf).mono ?_
  rintro e w' ⟨v', rfl, hv, hbb⟩
  exact ⟨v', t, e2, rfl, Kd.V_mono hv (fun k hk => hk.elim id (fun h => Nat.le_trans hb h)), hbb⟩
theorem runD_len {d : Dev} {w : World} {os : List OpP} (hd : d.Ok) {k : Nat} (h : ∀ o ∈ os.take k, WfPo w o) : (runD d (os.take k)).B.length = d.B.length := by
  have : ∀ (os : List OpP) (d : Dev), d.Ok → (∀ o ∈ os, WfPo w o) → (runD d os).B.length = d.B.length := by
    intro os
    induction os with
    | nil => exact fun d _ _ => rfl
    | cons o os ih =>
      intro d hd ho
      have h1 := stepD_ok hd (ho o (List.mem_cons_self ..))
      exact (ih (stepD d o) h1 (fun x hx => ho x (List.mem_cons_of_mem _ hx))).trans (stepD_len hd o)
  exact this _ _ hd h
end Go.Proofs.Ytbfogcckbhkciaa.Hand
namespace Go.Proofs.Ytbfogcckbhkciaa.Hand
open Go.RowKit Go.Maps Go.Proofs.YtbfogcckbhkciaaW.PrintWords Go.Proofs.YtbfogcckbhkciaaW.PrintLast Go.Proofs.YtbfogcckbhkciaaW.PrintMore Go.Proofs.Ytbfogcckbhkciaa.PHandRP
set_option linter.unusedVariables false
set_option linter.unusedSimpArgs false
set_option maxRecDepth 100000 in
theorem does19_write (w : World) (p : Nat) (v : Value) (s f : Nat) (d : Dev) (z a long : Int) (A1 : Option Addr) (c1 : Nat) (bs : List Int) (A2 : Option Addr) (c2 : Nat) (ks : List Int) (h : HasD w p v s f d) (hw : WfPo w ⟨z, a, long, A1, c1, bs, A2, c2, ks⟩) (hz : z = 0) :
    Calls Try.prog 101 #[.pointer (some ⟨p, 0, none⟩), .agg #[.int .i64 z, .int .i64 a, .int .i64 long, .slice A1 bs.length c1, .slice A2 ks.length c2]] w (DoesV w p v s f (stepD d ⟨z, a, long, A1, c1, bs, A2, c2, ks⟩)) := by
  have HH := Aside0.mk h
  have HW := Aside0.mk hw
  subst hz
  by_cases he : insE d.B.length a bs.length = 0
  · obtain ⟨_, h2, h3⟩ := ins_ok he
    obtain ⟨a, rfl⟩ := Int.eq_ofNat_of_zero_le h2
    have HE := Aside0.mk he
    have HST := Aside0.mk (show stepD d ⟨0, (a : Int), long, A1, c1, bs, A2, c2, ks⟩ = d.write a bs by simp only [stepD]; rw [if_pos trivial, if_pos he, Int.toNat_natCast])
    rw [HST.out]
    clear h hw he
    go_enter Try.func101, Try.ntmps101
    go_wp2_with (go_at_call 23; (with_reducible refine (write_good _ p v s f d a A1 bs.length c1 bs rfl (HH.out.move (below_alloc (Below.refl _ _) _)) (HW.out.rb.below (below_alloc (Below.refl _ _) _)) HW.out.by_ HE.out).mono ?_); rintro e w2 ⟨rfl, hs2, hf2⟩; have HS2 := Aside0.mk hs2; have HF2 := Aside0.mk hf2; clear hs2 hf2)
    go_end0
    exact ⟨rfl, HS2.out, ((Fr.refl _ _).alloc _).trans' HF2.out⟩
  · have HE := Aside0.mk he
    have HST := Aside0.mk (show stepD d ⟨0, a, long, A1, c1, bs, A2, c2, ks⟩ = d by simp only [stepD]; rw [if_pos trivial, if_neg he])
    rw [HST.out]
    have hln := hw.rb.2.1
    simp only at hln
    clear h hw he
    go_enter Try.func101, Try.ntmps101
    go_wp2_with (go_at_call 23; (with_reducible refine (write_bad _ p v s f d a A1 bs.length c1 (HH.out.move (below_alloc (Below.refl _ _) _)) hln HE.out).mono ?_); rintro e w2 ⟨rfl, hb2⟩; have HB2 := Aside0.mk hb2; clear hb2)
    go_end0
    exact ⟨rfl, (HH.out.move (below_alloc (Below.refl _ _) _)).move HB2.out, (Fr.of_below ((below_alloc (Below.refl w.heap.size w) _).trans (HB2.out.mono (by simp))) _)⟩
set_option maxRecDepth 100000 in
theorem does19_flush (w : World) (p : Nat) (v : Value) (s f : Nat) (d : Dev) (z a long : Int) (A1 : Option Addr) (c1 : Nat) (bs : List Int) (A2 : Option Addr) (c2 : Nat) (ks : List Int) (h : HasD w p v s f d) (hw : WfPo w ⟨z, a, long, A1, c1, bs, A2, c2, ks⟩) (hz : z = 2) :
    Calls Try.prog 101 #[.pointer (some ⟨p, 0, none⟩), .agg #[.int .i64 z, .int .i64 a, .int .i64 long, .slice A1 bs.length c1, .slice A2 ks.length c2]] w (DoesV w p v s f (stepD d ⟨z, a, long, A1, c1, bs, A2, c2, ks⟩)) := by
  have HH := Aside0.mk h
  subst hz
  by_cases he : insE d.B.length a long = 0
  · obtain ⟨h1, h2, h3⟩ := ins_ok he
    obtain ⟨a, rfl⟩ := Int.eq_ofNat_of_zero_le h2
    obtain ⟨long, rfl⟩ := Int.eq_ofNat_of_zero_le h1
    have HE := Aside0.mk he
    have HST := Aside0.mk (show stepD d ⟨2, (a : Int), (long : Int), A1, c1, bs, A2, c2, ks⟩ = d.flush a long by simp only [stepD]; rw [if_neg (by decide), if_pos trivial, if_pos he, Int.toNat_natCast, Int.toNat_natCast])
    rw [HST.out]
    clear h hw he
    go_enter Try.func101, Try.ntmps101
    go_wp2_with (go_at_call 25; (with_reducible refine (flush_calls _ p v s f d a long (HH.out.move (below_alloc (Below.refl _ _) _)) HE.out).mono ?_); rintro e w2 ⟨rfl, hs2, hf2⟩; have HS2 := Aside0.mk hs2; have HF2 := Aside0.mk hf2; clear hs2 hf2)
    go_end0
    exact ⟨rfl, HS2.out, ((Fr.refl _ _).alloc _).trans' HF2.out⟩
  · have HE := Aside0.mk he
    have HST := Aside0.mk (show stepD d ⟨2, a, long, A1, c1, bs, A2, c2, ks⟩ = d by simp only [stepD]; rw [if_neg (by decide), if_pos trivial, if_neg he])
    rw [HST.out]
    clear h hw he
    go_enter Try.func101, Try.ntmps101
    go_wp2_with (go_at_call 25; (with_reducible refine (flush_bad _ p v s f d a long (HH.out.move (below_alloc (Below.refl _ _) _)) HE.out).mono ?_); rintro e w2 ⟨rfl, hb2⟩; have HB2 := Aside0.mk hb2; clear hb2)
    go_end0
    exact ⟨rfl, (HH.out.move (below_alloc (Below.refl _ _) _)).move HB2.out, (Fr.of_below ((below_alloc (Below.refl w.heap.size w) _).trans (HB2.out.mono (by simp))) _)⟩
set_option maxRecDepth 100000 in
theorem does19_fence (w : World) (p : Nat) (v : Value) (s f : Nat) (d : Dev) (z a long : Int) (A1 : Option Addr) (c1 : Nat) (bs : List Int) (A2 : Option Addr) (c2 : Nat) (ks : List Int) (h : HasD w p v s f d) (hw : WfPo w ⟨z, a, long, A1, c1, bs, A2, c2, ks⟩) (hz : z = 3) :
    Calls Try.prog 101 #[.pointer (some ⟨p, 0, none⟩), .agg #[.int .i64 z, .int .i64 a, .int .i64 long, .slice A1 bs.length c1, .slice A2 ks.length c2]] w (DoesV w p v s f (stepD d ⟨z, a, long, A1, c1, bs, A2, c2, ks⟩)) := by
  have HH := Aside0.mk h
  subst hz
  have HST := Aside0.mk (show stepD d ⟨3, a, long, A1, c1, bs, A2, c2, ks⟩ = d.fence by simp [stepD])
  rw [HST.out]
  clear h hw
  go_enter Try.func101, Try.ntmps101
  go_wp2_with (go_at_call 24; (with_reducible refine (fence_calls _ p v s f d (HH.out.move (below_alloc (Below.refl _ _) _))).mono ?_); rintro e w2 ⟨rfl, hs2, hf2⟩; have HS2 := Aside0.mk hs2; have HF2 := Aside0.mk hf2; clear hs2 hf2)
  go_end0
  exact ⟨rfl, HS2.out, ((Fr.refl _ _).alloc _).trans' HF2.out⟩
set_option maxRecDepth 100000 in
theorem does19_crash (w : World) (p : Nat) (v : Value) (s f : Nat) (d : Dev) (z a long : Int) (A1 : Option Addr) (c1 : Nat) (bs : List Int) (A2 : Option Addr) (c2 : Nat) (ks : List Int) (h : HasD w p v s f d) (hw : WfPo w ⟨z, a, long, A1, c1, bs, A2, c2, ks⟩) (hk : 0 < ks.length → ∀ ad, A2 = some ad → ¬ some ad.block = v.ownBlock) (hz : z = 4) :
    Calls Try.prog 101 #[.pointer (some ⟨p, 0, none⟩), .agg #[.int .i64 z, .int .i64 a, .int .i64 long, .slice A1 bs.length c1, .slice A2 ks.length c2]] w (DoesV w p v s f (stepD d ⟨z, a, long, A1, c1, bs, A2, c2, ks⟩)) := by
  have HH := Aside0.mk h
  have HW := Aside0.mk hw
  subst hz
  have HST := Aside0.mk (show stepD d ⟨4, a, long, A1, c1, bs, A2, c2, ks⟩ = d.crash ks by simp [stepD])
  rw [HST.out]
  clear h hw
  go_enter Try.func101, Try.ntmps101
  go_wp2_with (go_at_call 30; (with_reducible refine (crash_calls _ p v s f d A2 c2 ks (HH.out.move (below_alloc (Below.refl _ _) _)) (HW.out.rk.below (below_alloc (Below.refl _ _) _)) hk).mono ?_); rintro e w2 ⟨rfl, hs2, hf2⟩; have HS2 := Aside0.mk hs2; have HF2 := Aside0.mk hf2; clear hs2 hf2)
  go_end0
  exact ⟨rfl, HS2.out, ((Fr.refl _ _).alloc _).trans' HF2.out⟩
set_option maxRecDepth 100000 in
theorem does19_other (w : World) (p : Nat) (v : Value) (s f : Nat) (d : Dev) (z a long : Int) (A1 : Option Addr) (c1 : Nat) (bs : List Int) (A2 : Option Addr) (c2 : Nat) (ks : List Int) (h : HasD w p v s f d) (hw : WfPo w ⟨z, a, long, A1, c1, bs, A2, c2, ks⟩) (h0 : z ≠ 0) (h2 : z ≠ 2) (h3 : z ≠ 3) (h4 : z ≠ 4) :
    Calls Try.prog 101 #[.pointer (some ⟨p, 0, none⟩), .agg #[.int .i64 z, .int .i64 a, .int .i64 long, .slice A1 bs.length c1, .slice A2 ks.length c2]] w (DoesV w p v s f (stepD d ⟨z, a, long, A1, c1, bs, A2, c2, ks⟩)) := by
  have HH := Aside0.mk h
  have HST := Aside0.mk (show stepD d ⟨z, a, long, A1, c1, bs, A2, c2, ks⟩ = d by simp only [stepD]; rw [if_neg (by omega), if_neg (by omega), if_neg (by omega), if_neg (by omega)])
  rw [HST.out]
  have e0 : (z == 0) = false := by simp; omega
  have e2 : (z == 2) = false := by simp; omega
  have e3 : (z == 3) = false := by simp; omega
  have e4 : (z == 4) = false := by simp; omega
  clear h hw
  go_enter Try.func101, Try.ntmps101
  go_wp2
  go_end0
  exact ⟨rfl, (HH.out.move (below_alloc (Below.refl _ _) _)), (Fr.refl _ _).alloc _⟩
theorem does19_calls (w : World) (p : Nat) (v : Value) (s f : Nat) (d : Dev) (z a long : Int) (A1 : Option Addr) (c1 : Nat) (bs : List Int) (A2 : Option Addr) (c2 : Nat) (ks : List Int) (h : HasD w p v s f d) (hw : WfPo w ⟨z, a, long, A1, c1, bs, A2, c2, ks⟩) (hk : 0 < ks.length → ∀ ad, A2 = some ad → ¬ some ad.block = v.ownBlock) :
    Calls Try.prog 101 #[.pointer (some ⟨p, 0, none⟩), .agg #[.int .i64 z, .int .i64 a, .int .i64 long, .slice A1 bs.length c1, .slice A2 ks.length c2]] w (DoesV w p v s f (stepD d ⟨z, a, long, A1, c1, bs, A2, c2, ks⟩)) := by
  by_cases h0 : z = 0
  · exact does19_write w p v s f d z a long A1 c1 bs A2 c2 ks h hw h0
  by_cases h2 : z = 2
  · exact does19_flush w p v s f d z a long A1 c1 bs A2 c2 ks h hw h2
  by_cases h3 : z = 3
  · exact does19_fence w p v s f d z a long A1 c1 bs A2 c2 ks h hw h3
  by_cases h4 : z = 4
  · exact does19_crash w p v s f d z a long A1 c1 bs A2 c2 ks h hw hk h4
  · exact does19_other w p v s f d z a long A1 c1 bs A2 c2 ks h hw h0 h2 h3 h4
set_option maxRecDepth 100000 in
theorem made19_bad (w : World) (A0 : Option Addr) (c0 : Nat) (B : List Int) (A : Option Addr) (c : Nat) (os : List OpP) (hB : ReadsInt w .u8 A0 B.length B) (hby : Bys B) (ho : PoK.C w A os.length os) (hw : ∀ o ∈ os, WfPo w o) (hck : ∀ o ∈ os, o.ks.length ≤ o.c2) (hbad : B.length % 8 ≠ 0 ∨ 65536 < B.length) : Calls Try.prog 55 #[.slice A0 B.length c0, .slice A os.length c] w (MadeW w) := by
  have HO := Aside0.mk ho
  have HW := Aside0.mk hw
  have HCK := Aside0.mk hck
  have HR := Aside0.mk hB
  have HOF := Aside0.mk (fun (W : World) => of_bad W A0 B.length c0 hbad)
  have HNW := Aside0.mk (fun (W : World) => r3new_bad W B hbad)
  have hl : os.length ≤ 9223372036854775807 := ho.2.1
  clear ho hw hB hby hbad
  go_enter Try.func55, Try.ntmps55
  go_wp2
  go_loopw [7, 21] (fun n i wr => ∃ (k : Nat) (m : Int), k ≤ os.length ∧ n = .int .i64 m ∧ i = .int .i64 k ∧ Aside0 (Below w.heap.size w wr)) (fun _ i _ => (os.length - intOf i).toNat)
  case atStart => exact ⟨0, 0, Nat.zero_le _, rfl, rfl, ⟨Below.refl _ _⟩⟩
  case round =>
    obtain ⟨k, m, hk, rfl, rfl, HB⟩ := hrel
    by_cases hlt : k < os.length
    · (obtain ⟨o, hx⟩ : ∃ o, os[k]? = some o := ⟨_, List.getElem?_eq_getElem hlt⟩; obtain ⟨bb, ob, hB, hcb⟩ := C_at (Kd.C_below HO.out HB.out) (by decide) hx; subst hB; have HWO := Aside0.mk (HW.out o (List.mem_of_getElem? hx)); have HCO := Aside0.mk (HCK.out o (List.mem_of_getElem? hx)); obtain ⟨z, a, long, A1, c1, bs, A2, c2, ks⟩ := o; have b0 : wr.cell? ⟨bb, ob + k * 5, none⟩ = some (.int .i64 z) := hcb 0 (by decide); have b1 : wr.cell? ⟨bb, ob + k * 5 + 1, none⟩ = some (.int .i64 a) := hcb 1 (by decide); have b2 : wr.cell? ⟨bb, ob + k * 5 + 2, none⟩ = some (.int .i64 long) := hcb 2 (by decide); have b3 : wr.cell? ⟨bb, ob + k * 5 + 3, none⟩ = some (.slice A1 bs.length c1) := hcb 3 (by decide); have b4 : wr.cell? ⟨bb, ob + k * 5 + 4, none⟩ = some (.slice A2 ks.length c2) := hcb 4 (by decide); clear hcb)
      clear hx
      go_wp2
      refine ⟨⟨k + 1, _, by omega, rfl, by go_num, ⟨below_alloc HB.out _⟩⟩, by simp [intOf]; omega⟩
    · obtain rfl : k = os.length := by omega
      go_wp2_with (first | (go_at_call 69; (with_reducible refine (HOF.out _).mono ?_); rintro e w1 ⟨rfl, hb⟩; have HB1 := Aside0.mk (bel_step HB.out hb); have hcv := conv_n (c := c0) (HR.out.below HB1.out); clear hb) | (go_at_call 74; (with_reducible refine (HNW.out _).mono ?_); rintro e w2 ⟨v2, rfl, hb⟩; have HB2 := Aside0.mk (bel_step HB1.out hb); clear hb))
      go_ret3
      exact .inl ⟨rfl, HB2.out⟩
set_option maxRecDepth 100000 in
set_option maxHeartbeats 1000000 in
theorem made19_good (w : World) (A0 : Option Addr) (c0 : Nat) (B : List Int) (A : Option Addr) (c : Nat) (os : List OpP) (hB : ReadsInt w .u8 A0 B.length B) (hby : Bys B) (ho : PoK.C w A os.length os) (hw : ∀ o ∈ os, WfPo w o) (hck : ∀ o ∈ os, o.ks.length ≤ o.c2) {nn : Nat} (h8 : B.length = 8 * nn) (hn : nn ≤ 8192) : Calls Try.prog 55 #[.slice A0 B.length c0, .slice A os.length c] w (MadeW w) := by
  have HO := Aside0.mk ho
  have HW := Aside0.mk hw
  have HCK := Aside0.mk hck
  have HR := Aside0.mk hB
  have H8 := Aside0.mk h8
  have HDO := Aside0.mk (show (Dev.of B).Ok from Dev.Ok.of (by omega) (by omega) hby)
  have HOF := Aside0.mk (fun (W : World) (hW : Below w.heap.size w W) => show Calls Try.prog 69 #[.slice A0 B.length c0] W (NewDev W B) from of_calls W A0 c0 B (hB.below hW) hby (by omega) (by omega))
  have HNW := Aside0.mk (fun (W : World) => r3new_calls W B h8 hn)
  have hl : os.length ≤ 9223372036854775807 := ho.2.1
  have hbl : B.length ≤ 65536 := by omega
  clear ho hw hB hby h8
  go_enter Try.func55, Try.ntmps55
  go_wp2
  go_loopw [7, 21] (fun n i wr => ∃ (k : Nat) (m : Int), k ≤ os.length ∧ n = .int .i64 m ∧ i = .int .i64 k ∧ Aside0 (Below w.heap.size w wr)) (fun _ i _ => (os.length - intOf i).toNat)
  case atStart => exact ⟨0, 0, Nat.zero_le _, rfl, rfl, ⟨Below.refl _ _⟩⟩
  case round =>
    obtain ⟨k, m, hk, rfl, rfl, HB⟩ := hrel
    by_cases hlt : k < os.length
    · (obtain ⟨o, hx⟩ : ∃ o, os[k]? = some o := ⟨_, List.getElem?_eq_getElem hlt⟩; obtain ⟨bb, ob, hB, hcb⟩ := C_at (Kd.C_below HO.out HB.out) (by decide) hx; subst hB; have HWO := Aside0.mk (HW.out o (List.mem_of_getElem? hx)); have HCO := Aside0.mk (HCK.out o (List.mem_of_getElem? hx)); obtain ⟨z, a, long, A1, c1, bs, A2, c2, ks⟩ := o; have b0 : wr.cell? ⟨bb, ob + k * 5, none⟩ = some (.int .i64 z) := hcb 0 (by decide); have b1 : wr.cell? ⟨bb, ob + k * 5 + 1, none⟩ = some (.int .i64 a) := hcb 1 (by decide); have b2 : wr.cell? ⟨bb, ob + k * 5 + 2, none⟩ = some (.int .i64 long) := hcb 2 (by decide); have b3 : wr.cell? ⟨bb, ob + k * 5 + 3, none⟩ = some (.slice A1 bs.length c1) := hcb 3 (by decide); have b4 : wr.cell? ⟨bb, ob + k * 5 + 4, none⟩ = some (.slice A2 ks.length c2) := hcb 4 (by decide); clear hcb)
      clear hx
      go_wp2
      refine ⟨⟨k + 1, _, by omega, rfl, by go_num, ⟨below_alloc HB.out _⟩⟩, by simp [intOf]; omega⟩
    · obtain rfl : k = os.length := by omega
      rcases (show 300 < B.length ∨ (¬ 300 < B.length ∧ 80 < os.length) ∨ (¬ 300 < B.length ∧ ¬ 80 < os.length ∧ 2000 < m) ∨ (¬ 300 < B.length ∧ ¬ 80 < os.length ∧ ¬ 2000 < m) by omega) with g1 | ⟨g1, g2⟩ | ⟨g1, g2, g3⟩ | ⟨g1, g2, g3⟩
      all_goals
        go_wp2_with (first | (go_at_call 69; (with_reducible refine (HOF.out _ HB.out).mono ?_); rintro e w1 ⟨p, u, s, f, rfl, hd1, hp1, hv1, hb1⟩; have HD1 := Aside0.mk hd1; have HP1 := Aside0.mk (Nat.le_trans HB.out.size hp1); have HV1 := Aside0.mk (fun b hb => Nat.le_trans HB.out.size (hv1 b hb)); have HB1 := Aside0.mk (bel_step HB.out hb1); have hcv := conv_n (c := c0) (HR.out.below HB1.out); clear hd1 hp1 hv1 hb1) | (go_at_call 74; (with_reducible refine (HNW.out _).mono ?_); rintro e w2 ⟨v2, rfl, hr2, hb2⟩; have HR2 := Aside0.mk hr2; have HB2 := Aside0.mk (bel_step HB1.out hb2); have HD2 := Aside0.mk (HD1.out.move hb2); have HW2 := Aside0.mk hb2.size; clear hr2 hb2))
      go_ret3
      exact .inl ⟨rfl, HB2.out⟩
      go_ret3
      exact .inl ⟨rfl, HB2.out⟩
      go_ret3
      exact .inl ⟨rfl, HB2.out⟩
      clear hcv
      have HOW := Aside0.mk (show ∀ b, OwnD u s f b → b < w1.heap.size from fun b hb => HD1.out.own_lt hb)
      go_loopw [12, 72] (fun rv i wr => ∃ k : Nat, k ≤ os.length ∧ i = .int .i64 k ∧ Aside0 (RowV wr w1.heap.size rv (runD (Dev.of B) (os.take k)) nn) ∧ Aside0 (HasD wr p u s f (runD (Dev.of B) (os.take k))) ∧ Aside0 (Below w.heap.size w wr) ∧ Aside0 (w1.heap.size ≤ wr.heap.size)) (fun _ i _ => (os.length - intOf i).toNat)
      case atStart => exact ⟨0, Nat.zero_le _, rfl, HR2, HD2, HB2, HW2⟩
      case round =>
        obtain ⟨k, hk, rfl, HRr, HD, HB, HS⟩ := hrel
        by_cases hlt : k < os.length
        · have HLN := Aside0.mk (runD_len HDO.out (fun o ho => (HW.out o (List.mem_of_mem_take ho))) (k := k))
          (obtain ⟨o, hx⟩ : ∃ o, os[k]? = some o := ⟨_, List.getElem?_eq_getElem hlt⟩; obtain ⟨bb, ob, hB, hcb⟩ := C_at (Kd.C_below HO.out HB.out) (by decide) hx; subst hB; have HWO := Aside0.mk (HW.out o (List.mem_of_getElem? hx)); have HCO := Aside0.mk (HCK.out o (List.mem_of_getElem? hx)); obtain ⟨z, a, long, A1, c1, bs, A2, c2, ks⟩ := o; have b0 : wr.cell? ⟨bb, ob + k * 5, none⟩ = some (.int .i64 z) := hcb 0 (by decide); have b1 : wr.cell? ⟨bb, ob + k * 5 + 1, none⟩ = some (.int .i64 a) := hcb 1 (by decide); have b2 : wr.cell? ⟨bb, ob + k * 5 + 2, none⟩ = some (.int .i64 long) := hcb 2 (by decide); have b3 : wr.cell? ⟨bb, ob + k * 5 + 3, none⟩ = some (.slice A1 bs.length c1) := hcb 3 (by decide); have b4 : wr.cell? ⟨bb, ob + k * 5 + 4, none⟩ = some (.slice A2 ks.length c2) := hcb 4 (by decide); clear hcb)
          have HRN := Aside0.mk (runD_take (d := Dev.of B) hx)
          clear hx
          by_cases hz1 : z = 1
          · subst hz1
            have HST := Aside0.mk (show stepD (runD (Dev.of B) (os.take k)) ⟨1, a, long, A1, c1, bs, A2, c2, ks⟩ = runD (Dev.of B) (os.take k) from by simp [stepD])
            go_wp2
            refine ⟨⟨k + 1, by omega, by go_num, ⟨?_⟩, ⟨?_⟩, ⟨below_alloc HB.out _⟩, ⟨Nat.le_trans HS.out (below_alloc (Below.refl _ _) _).size⟩⟩, by simp [intOf]; omega⟩
            · rw [HRN.out, HST.out]
              exact Kd.V_below HRr.out (below_alloc (Below.refl _ _) _)
            · rw [HRN.out, HST.out]
              exact HD.out.move (below_alloc (Below.refl _ _) _)
          · obtain ⟨dk, hdk⟩ : ∃ dk, dk = runD (Dev.of B) (os.take k) := ⟨_, rfl⟩
            rw [← hdk] at HRr HD HLN HRN
            have hz1b : (z == 1) = false := by simp; omega
            have HDD := Aside0.mk (fun (W : World) (hW : Below wr.heap.size wr W) => r3do_calls HD.out.ok (by rw [HLN.out]; exact H8.out) (Kd.V_below HRr.out hW) (Nat.le_trans HS.out hW.size) ⟨z, a, long, A1, c1, bs, A2, c2, ks⟩ (HWO.out.below (bel_step HB.out hW)) HCO.out hz1)
            have HDS := Aside0.mk (fun (W : World) (hW : Below wr.heap.size wr W) => does19_calls W p u s f _ z a long A1 c1 bs A2 c2 ks (HD.out.move hW) (HWO.out.below (bel_step HB.out hW)) (reads_off HWO.out.rk (fun b hb => HV1.out b (.inl hb))))
            have HBA := Aside0.mk (below_alloc (Below.refl wr.heap.size wr) (.cells #[.int .i64 z, .int .i64 a, .int .i64 long, .slice A1 bs.length c1, .slice A2 ks.length c2] 26))
            clear hdk
            go_wp2_with (first | (go_at_call 58; (with_reducible refine (HDD.out _ HBA.out).mono ?_); rintro e w3 ⟨v3, t3, e3, rfl, hr3, hb3⟩; have HR3 := Aside0.mk hr3; have HB3 := Aside0.mk (bel_step HBA.out hb3); have hbx : w3.heap[wr.heap.size]? = some (.cells #[.int .i64 z, .int .i64 a, .int .i64 long, .slice A1 bs.length c1, .slice A2 ks.length c2] 26 (0, 0)) := BoxAt.below (boxed_at wr ⟨z, a, long, A1, c1, bs, A2, c2, ks⟩) hb3; have q0 := blk_cell hbx (i := 0) rfl; have q1 := blk_cell hbx (i := 1) rfl; have q2 := blk_cell hbx (i := 2) rfl; have q3 := blk_cell hbx (i := 3) rfl; have q4 := blk_cell hbx (i := 4) rfl; clear hr3 hb3 hbx) | (go_at_call 101; (with_reducible refine (HDS.out _ HB3.out).mono ?_); rintro e w4 ⟨rfl, hd4, hf4⟩; have HD4 := Aside0.mk hd4; have HF4 := Aside0.mk hf4; have HB4 := Aside0.mk ((bel_step HB.out HB3.out).trans (hf4.below _ (bel_step HB.out HB3.out).size (fun b hb => HV1.out b hb))); clear hd4 hf4))
            refine ⟨⟨k + 1, by omega, by go_num, ⟨?_⟩, ⟨?_⟩, HB4, ⟨Nat.le_trans (Nat.le_trans HS.out HB3.out.size) HF4.out.size⟩⟩, by simp [intOf]; omega⟩
            · rw [HRN.out]
              exact Kd.V_step HR3.out (fun j hj hlt => HF4.out.block j hlt (fun ho => absurd (HOW.out j ho) (Nat.not_lt.2 hj)))
            · rw [HRN.out]
              exact HD4.out
        · obtain rfl : k = os.length := by omega
          rw [List.take_length] at HD HRr
          have HLN := Aside0.mk (runD_len HDO.out (fun o ho => HW.out o (List.mem_of_mem_take ho)) (k := os.length))
          rw [List.take_length] at HLN
          go_wp2
          go_ret3
          exact .inr ⟨p, u, s, f, _, _, nn, w1.heap.size, rfl, HD.out, by rw [HLN.out]; exact H8.out, HRr.out, HOW.out, HS.out, HP1.out, HV1.out, HB.out⟩
theorem made19_calls (w : World) (A0 : Option Addr) (c0 : Nat) (B : List Int) (A : Option Addr) (c : Nat) (os : List OpP) (hB : ReadsInt w .u8 A0 B.length B) (hby : Bys B) (ho : PoK.C w A os.length os) (hw : ∀ o ∈ os, WfPo w o) (hck : ∀ o ∈ os, o.ks.length ≤ o.c2) : Calls Try.prog 55 #[.slice A0 B.length c0, .slice A os.length c] w (MadeW w) := by
  by_cases h : B.length % 8 = 0 ∧ B.length ≤ 65536
  · exact made19_good w A0 c0 B A c os hB hby ho hw hck (nn := B.length / 8) (by omega) (by omega)
  · exact made19_bad w A0 c0 B A c os hB hby ho hw hck (by omega)
end Go.Proofs.Ytbfogcckbhkciaa.Hand
namespace Go.Proofs.Ytbfogcckbhkciaa.Hand
open Go.RowKit Go.Proofs.YtbfogcckbhkciaaW.PrintWords

/-- A register, one bit on. -/
def bitN (n : Int) : Int := if n / 32768 = 1 then bits .xor .u16 (IntKind.u16.wrap (n * 2)) 4129 else IntKind.u16.wrap (n * 2)
theorem bitN_yes {n : Int} (h : n / 32768 = 1) : bitN n = bits .xor .u16 (IntKind.u16.wrap (n * 2)) 4129 := if_pos h
theorem bitN_no {n : Int} (h : ¬ n / 32768 = 1) : bitN n = IntKind.u16.wrap (n * 2) := if_neg h

theorem bit_calls (w : World) (g : Nat) (n : Int) (hg : w.heap[g]? = some (.cells #[.int .u16 n] 195 (0, 0))) :
    Calls Try.prog 150 #[.pointer (some ⟨g, 0, none⟩)] w fun e w' => e = .returned (.tuple #[]) ∧ w'.heap[g]? = some (.cells #[.int .u16 (bitN n)] 195 (0, 0)) ∧ Fr (fun b => b = g) w w' := by
  have hc := cell_of_one hg
  have hf := free_of_one hg
  have HG := Aside0.mk hg
  clear hg
  by_cases h : n / 32768 = 1
  · have HB := Aside0.mk (bitN_yes h)
    have hb1 : (n / 32768 == 1) = true := by simpa using h
    clear h
    go_enter Try.func150, Try.ntmps150
    go_wp2
    go_end0
    exact ⟨rfl, by rw [HB.out]; exact one_setCell (one_setCell HG.out), ((Fr.refl (fun b => b = g) w).setCell (p := ⟨g, 0, none⟩) (.inl rfl) _).setCell (p := ⟨g, 0, none⟩) (.inl rfl) _⟩
  · have HB := Aside0.mk (bitN_no h)
    have hb1 : (n / 32768 == 1) = false := by simpa using h
    clear h
    go_enter Try.func150, Try.ntmps150
    go_wp2
    go_end0
    exact ⟨rfl, by rw [HB.out]; exact one_setCell HG.out, (Fr.refl (fun b => b = g) w).setCell (p := ⟨g, 0, none⟩) (.inl rfl) _⟩

/-- So many bits on. -/
def bitsN (n : Int) : Nat → Int
  | 0 => n
  | k + 1 => bitN (bitsN n k)
/-- A byte more. -/
def byteN (n c : Int) : Int := bitsN (bits .xor .u16 n (IntKind.u16.wrap (IntKind.u16.wrap c * 256))) 8
/-- The register behind the first k bytes. -/
def regN (sum : Int) (l : List Int) : Nat → Int
  | 0 => IntKind.u16.wrap sum
  | k + 1 => byteN (regN sum l k) (rd l k)
def moreF (sum : Int) (l : List Int) : Option Int := if l.length ≤ 140737488355328 then some (wrap64 (regN sum l l.length)) else none

set_option maxHeartbeats 1000000 in
theorem more_calls (sum : Int) (A : Option Addr) (c : Nat) (l : List Int) (r : Int) (w : World) (hr0 : Kd.C (Kd.int .u8) w A l.length l) (h : moreF sum l = some r) :
    Calls Try.prog 134 #[.int .i64 sum, .slice A l.length c] w fun e w' => e = .returned (.int .i64 r) ∧ Below w.heap.size w w' := by
  have HR := Aside0.mk (Kd.reads_of_C (d := (0 : Int)) hr0)
  clear hr0
  obtain ⟨hl, rfl⟩ : l.length ≤ 140737488355328 ∧ wrap64 (regN sum l l.length) = r := by
    unfold moreF at h
    split at h
    · exact ⟨‹_›, Option.some.inj h⟩
    · exact absurd h (by simp)
  clear h
  go_enter Try.func134, Try.ntmps134
  go_wp2
  go_loopw [14] (fun i wr => ∃ k : Nat, k ≤ l.length ∧ i = .int .i64 k ∧ wr.heap[w.heap.size]? = some (.cells #[.int .u16 (regN sum l k)] 195 (0, 0)) ∧ Below w.heap.size w wr) (fun i _ => l.length - (intOf i).toNat)
  case atStart => exact ⟨0, Nat.zero_le _, rfl, heap_alloc_new w _, below_alloc (Below.refl _ _) _⟩
  case round =>
    obtain ⟨k, hk, rfl, hg, hb⟩ := hrel
    have hc := cell_of_one hg
    have hf := free_of_one hg
    by_cases hlt : k < l.length
    · obtain ⟨ad, rfl, hx⟩ := HR.out.2.2 (by omega)
      have hx1 : wr.cell? (ad.add k) = some (.int .u8 (rd l k)) := (hb.cell (World.block_lt_of_cell? w _ (hx k hlt))).trans (hx k hlt)
      clear hx
      have HG := Aside0.mk hg
      have HB := Aside0.mk hb
      clear hg hb
      go_wp2
      go_loopw [23] (fun i wr2 => ∃ j : Nat, j ≤ 8 ∧ i = .int .i64 j ∧ wr2.heap[w.heap.size]? = some (.cells #[.int .u16 (bitsN (bits .xor .u16 (regN sum l k) (IntKind.u16.wrap (IntKind.u16.wrap (rd l k) * 256))) j)] 195 (0, 0)) ∧ Below w.heap.size w wr2) (fun i _ => 8 - (intOf i).toNat)
      case atStart => exact ⟨0, Nat.zero_le _, rfl, one_setCell HG.out, HB.out.setCell (p := ⟨w.heap.size, 0, none⟩) (Nat.le_refl _) _⟩
      case round =>
        obtain ⟨j, hj, rfl, hg, hb⟩ := hrel
        have HG := Aside0.mk hg
        have HB := Aside0.mk hb
        clear hg hb
        by_cases hj8 : j < 8
        · go_wp2_with (go_at_call 150; refine (bit_calls _ _ _ HG.out).mono ?_; rintro e w' ⟨rfl, hg', hfr⟩; have HG' := Aside0.mk hg'; have HF := Aside0.mk hfr; clear hg' hfr)
          go_roundw
          case rel => exact ⟨j + 1, by omega, by go_num, HG'.out, HB.out.trans (HF.out.below _ HB.out.size (fun b hb => by subst hb; exact Nat.le_refl _))⟩
          case measure => simp [intOf]; omega
        · obtain rfl : j = 8 := by omega
          go_wp2
          go_roundw
          case rel => exact ⟨k + 1, by omega, by go_num, HG.out, HB.out⟩
          case measure => simp [intOf]; omega
    · obtain rfl : k = l.length := by omega
      go_wp2
      go_ret
      exact ⟨rfl, hb⟩
end Go.Proofs.Ytbfogcckbhkciaa.Hand
namespace Go.Proofs.Ytbfogcckbhkciaa.Hand
open Go.RowKit Go.Proofs.YtbfogcckbhkciaaW.PrintWords

abbrev V16 := BitVec 16
def tI (x : V16) : Int := (x.toNat : Int)
theorem tI_lt (x : V16) : 0 ≤ tI x ∧ tI x < 65536 := ⟨Int.natCast_nonneg _, by have := x.isLt; unfold tI; omega⟩
theorem tI_toNat (x : V16) : (tI x).toNat = x.toNat := Int.toNat_natCast _
theorem tI_inj {x y : V16} (h : tI x = tI y) : x = y := BitVec.eq_of_toNat_eq (by unfold tI at h; omega)
theorem tI_xor (x y : V16) : bits .xor .u16 (tI x) (tI y) = tI (x ^^^ y) := by
  have := tI_lt x; have := tI_lt y
  rw [u16_xor _ _ (by omega) (by omega) (by omega) (by omega), tI_toNat, tI_toNat, tI, BitVec.toNat_xor]
theorem tI_ofInt (n : Int) : tI (BitVec.ofInt 16 n) = n % 65536 := by
  rw [tI, BitVec.toNat_ofInt]
  have : 0 ≤ n % 65536 := Int.emod_nonneg _ (by decide)
  show ((n % ((2 ^ 16 : Nat) : Int)).toNat : Int) = _
  rw [show (((2 ^ 16 : Nat) : Int)) = 65536 from rfl]
  omega
theorem tI_shl (x : V16) (k : Nat) : tI (x <<< k) = tI x * 2 ^ k % 65536 := by
  rw [tI, BitVec.toNat_shiftLeft, Nat.shiftLeft_eq]
  unfold tI
  rw [Int.natCast_emod, Int.natCast_mul, Int.natCast_pow]
  rfl
def bitV (x : V16) : V16 := if x.msb then (x <<< 1) ^^^ 4129#16 else x <<< 1
theorem bit_v (x : V16) : bitN (tI x) = tI (bitV x) := by
  have h1 := tI_lt x
  have hm : x.msb = decide (tI x / 32768 = 1) := by
    rw [BitVec.msb_eq_decide]
    refine decide_eq_decide.2 ?_
    unfold tI at *
    constructor <;> intro h <;> omega
  have h2 : IntKind.u16.wrap (tI x * 2) = tI (x <<< 1) := by rw [tI_shl, IntKind.wrap_u16]; rfl
  rw [bitN, bitV, hm, h2]
  by_cases h : tI x / 32768 = 1
  · rw [if_pos h, if_pos (by simpa using h), ← tI_xor]
    rfl
  · rw [if_neg h, if_neg (by simpa using h)]
def bitsV (x : V16) : Nat → V16
  | 0 => x
  | k + 1 => bitV (bitsV x k)
theorem bits_v (x : V16) (k : Nat) : bitsN (tI x) k = tI (bitsV x k) := by
  induction k with
  | zero => rfl
  | succ k ih => rw [bitsN, ih, bit_v]; rfl
def byteV (x : V16) (c : Int) : V16 := bitsV (x ^^^ (BitVec.ofInt 16 c <<< 8)) 8
theorem byte_v (x : V16) (c : Int) : byteN (tI x) c = tI (byteV x c) := by
  have h2 : IntKind.u16.wrap (IntKind.u16.wrap c * 256) = tI (BitVec.ofInt 16 c <<< 8) := by
    rw [tI_shl, tI_ofInt, IntKind.wrap_u16, IntKind.wrap_u16]; rfl
  rw [byteN, h2, tI_xor, bits_v]; rfl
def crcV (x : V16) (l : List Int) : V16 := l.foldl byteV x
/-! linear -/
theorem crcV_append (x : V16) (a b : List Int) : crcV x (a ++ b) = crcV (crcV x a) b := List.foldl_append
theorem take_rd {l : List Int} {k : Nat} (h : k < l.length) : l.take (k + 1) = l.take k ++ [rd l k] := by
  rw [List.take_add_one]
  congr 1
  rw [rd]
  simp [h]
theorem reg_v (sum : Int) (l : List Int) (k : Nat) (h : k ≤ l.length) : regN sum l k = tI (crcV (BitVec.ofInt 16 sum) (l.take k)) := by
  induction k with
  | zero => rw [regN, IntKind.wrap_u16, List.take_zero, ← tI_ofInt]; rfl
  | succ k ih =>
    rw [regN, ih (by omega), byte_v, take_rd (by omega), crcV_append]
    rfl
theorem more_v (sum : Int) (A : Option Addr) (c : Nat) (l : List Int) (w : World) (hr : ReadsInt w .u8 A l.length l) (hl : l.length ≤ 140737488355328) :
    Calls Try.prog 134 #[.int .i64 sum, .slice A l.length c] w fun e w' => e = .returned (.int .i64 (tI (crcV (BitVec.ofInt 16 sum) l))) ∧ Below w.heap.size w w' := by
  have hw : wrap64 (regN sum l l.length) = tI (crcV (BitVec.ofInt 16 sum) l) := by
    rw [reg_v sum l _ (Nat.le_refl _), List.take_of_length_le (Nat.le_refl _)]
    have := tI_lt (crcV (BitVec.ofInt 16 sum) l)
    unfold wrap64
    omega
  exact more_calls sum A c l _ w (Kd.C_of_reads (d := (0 : Int)) (h1 := fun _ => rfl) hr) (by rw [moreF, if_pos hl, hw])
end Go.Proofs.Ytbfogcckbhkciaa.Hand
namespace Go.Proofs.Ytbfogcckbhkciaa.Hand
open Go.RowKit Go.Proofs.YtbfogcckbhkciaaW.PrintWords

theorem xor_step (x k : Nat) : x % 2 ^ (k + 1) = x % 2 ^ k + 2 ^ k * (x / 2 ^ k % 2) := by
  rw [Nat.pow_succ, Nat.mod_mul]
theorem xor_div (a b k : Nat) : (a ^^^ b) / 2 ^ k = a / 2 ^ k ^^^ b / 2 ^ k := by
  rw [← Nat.shiftRight_eq_div_pow, ← Nat.shiftRight_eq_div_pow, ← Nat.shiftRight_eq_div_pow, Nat.shiftRight_xor_distrib]
theorem xor_odd (a b : Nat) : (a ^^^ b) % 2 = if a % 2 = b % 2 then 0 else 1 := by
  have := Nat.xor_mod_two_pow (a := a) (b := b) (n := 1)
  rw [Nat.pow_one] at this
  rw [this]
  rcases Nat.mod_two_eq_zero_or_one a with h | h <;> rcases Nat.mod_two_eq_zero_or_one b with h2 | h2 <;> rw [h, h2] <;> rfl
theorem rXor_calls (x y : V16) (w : World) : Calls Try.prog 149 #[.int .i64 (tI x), .int .i64 (tI y)] w fun e w' => e = .returned (.int .i64 (tI (x ^^^ y))) ∧ w = w' := by
  have hx := x.isLt
  have hy := y.isLt
  rw [show tI (x ^^^ y) = ((x.toNat ^^^ y.toNat : Nat) : Int) by rw [tI, BitVec.toNat_xor]]
  unfold tI at *
  have HX : Aside0 ((x.toNat ^^^ y.toNat) < 65536) := ⟨Nat.xor_lt_two_pow (n := 16) hx hy⟩
  generalize x.toNat = A at *
  generalize y.toNat = B at *
  go_enter Try.func149, Try.ntmps149
  go_wp2
  go_loop [0, 1, 5, 6, 7] (fun a b o t i => ∃ k p q m u : Nat, k ≤ 16 ∧ i = .int .i64 k ∧ a = .int .i64 p ∧ b = .int .i64 q ∧ o = .int .i64 m ∧ t = .int .i64 u ∧ Aside0 (p = A / 2 ^ k ∧ q = B / 2 ^ k ∧ m = (A ^^^ B) % 2 ^ k ∧ u = 2 ^ k)) (fun _ _ _ _ i => (16 - intOf i).toNat)
  case atStart => exact ⟨0, A, B, 0, 1, by omega, rfl, rfl, rfl, rfl, rfl, ⟨by simp, by simp, by simp [Nat.mod_one], rfl⟩⟩
  case round =>
    obtain ⟨k, p, q, m, u, hk, rfl, rfl, rfl, rfl, rfl, HP⟩ := hrel
    by_cases hlt : k < 16
    · have hu : u ≤ 32768 := by
        rw [HP.out.2.2.2]
        exact Nat.pow_le_pow_right (n := 2) (by decide) (show k ≤ 15 by omega)
      have hm : m < u := by
        rw [HP.out.2.2.1, HP.out.2.2.2]
        exact Nat.mod_lt _ (Nat.pow_pos (by decide))
      have hp : p < 65536 := by rw [HP.out.1]; exact Nat.lt_of_le_of_lt (Nat.div_le_self _ _) hx
      have hq : q < 65536 := by rw [HP.out.2.1]; exact Nat.lt_of_le_of_lt (Nat.div_le_self _ _) hy
      have HS := Aside0.mk (xor_step (A ^^^ B) k)
      rw [xor_div, ← HP.out.1, ← HP.out.2.1, ← HP.out.2.2.1, ← HP.out.2.2.2, xor_odd] at HS
      by_cases hpq : p % 2 = q % 2
      · have hd : (p : Int).tmod 2 = (q : Int).tmod 2 := by rw [Int.tmod_eq_emod_of_nonneg (by omega), Int.tmod_eq_emod_of_nonneg (by omega)]; omega
        rw [if_pos hpq] at HS
        clear hpq
        go_wp2
        go_round
        case rel => exact ⟨k + 1, p / 2, q / 2, m, u * 2, by omega, by go_num, congrArg _ (by omega), congrArg _ (by omega), rfl, congrArg _ (by omega), ⟨by rw [HP.out.1, Nat.div_div_eq_div_mul, Nat.pow_succ], by rw [HP.out.2.1, Nat.div_div_eq_div_mul, Nat.pow_succ], by rw [HS.out]; omega, by rw [HP.out.2.2.2, Nat.pow_succ]⟩⟩
        case measure => simp [intOf]; omega
      · rw [if_neg hpq] at HS
        go_wp2
        go_round
        case rel => exact ⟨k + 1, p / 2, q / 2, m + u, u * 2, by omega, by go_num, congrArg _ (by omega), congrArg _ (by omega), congrArg _ (by omega), congrArg _ (by omega), ⟨by rw [HP.out.1, Nat.div_div_eq_div_mul, Nat.pow_succ], by rw [HP.out.2.1, Nat.div_div_eq_div_mul, Nat.pow_succ], by rw [HS.out]; omega, by rw [HP.out.2.2.2, Nat.pow_succ]⟩⟩
        case measure => simp [intOf]; omega
    · obtain rfl : k = 16 := by omega
      go_wp2
      go_ret
      refine ⟨?_, rfl⟩
      have h1 := HP.out.2.2.1
      have h2 := HX.out
      rw [Nat.mod_eq_of_lt h2] at h1
      subst h1
      rfl
theorem rLow_calls (n : Int) (w : World) : Calls Try.prog 148 #[.int .i64 n] w fun e w' => e = .returned (.int .i64 (tI (BitVec.ofInt 16 n))) ∧ w = w' := by
  rw [tI_ofInt]
  have t1 := Int.tmod_lt_of_pos n (b := 65536) (by decide)
  have t2 := Int.lt_tmod_of_pos n (b := 65536) (by decide)
  have HT := Aside0.mk (Int.tmod_add_mul_tdiv n 65536)
  by_cases h : n.tmod 65536 < 0
  · go_enter Try.func148, Try.ntmps148
    go_wp2
    go_ret
    refine ⟨congrArg (fun x => Ending.returned (Value.int .i64 x)) ?_, rfl⟩
    have := HT.out
    omega
  · go_enter Try.func148, Try.ntmps148
    go_wp2
    go_ret
    refine ⟨congrArg (fun x => Ending.returned (Value.int .i64 x)) ?_, rfl⟩
    have := HT.out
    omega
theorem calls_at' {P : Program} {f : FuncId} {args args' : Array Value} {w : World} {Q : Ending → World → Prop} (h : args = args') (hc : Calls P f args' w Q) : Calls P f args w Q := h ▸ hc
theorem tI_two (x : V16) : tI (x <<< 1) = if 32768 ≤ tI x then tI x * 2 - 65536 else tI x * 2 := by
  have := tI_lt x
  rw [tI_shl]
  split <;> omega
theorem bitV_if (x : V16) : bitV x = if 32768 ≤ tI x then (x <<< 1) ^^^ 4129#16 else x <<< 1 := by
  have : x.msb = decide (32768 ≤ tI x) := by
    rw [BitVec.msb_eq_decide]
    refine decide_eq_decide.2 ?_
    unfold tI
    constructor <;> intro h <;> omega
  rw [bitV, this]
  simp
theorem rMore_calls (sum : Int) (s : ByteArray) (hs : s.size ≤ 140737488355328) (w : World) :
    Calls Try.prog 132 #[.int .i64 sum, .string s] w fun e w' => e = .returned (.int .i64 (tI (crcV (BitVec.ofInt 16 sum) (bytesOf s)))) ∧ w = w' := by
  go_enter Try.func132, Try.ntmps132
  go_wp2_with (go_at_call 148; refine (rLow_calls sum _).mono ?_; rintro e w1 ⟨rfl, rfl⟩)
  have hL := bytesOf_length s
  go_loop [5, 6] (fun n i => ∃ (k : Nat) (x : V16), k ≤ s.size ∧ i = .int .i64 k ∧ n = .int .i64 (tI x) ∧ Aside0 (x = crcV (BitVec.ofInt 16 sum) ((bytesOf s).take k))) (fun _ i => (s.size - intOf i).toNat)
  case atStart => exact ⟨0, _, Nat.zero_le _, rfl, rfl, ⟨rfl⟩⟩
  case round =>
    obtain ⟨k, x, hk, rfl, rfl, HX⟩ := hrel
    by_cases hlt : k < s.size
    · have hb : ∀ h : k < s.size, ((s[k]'h).toNat : Int) = bt s k := bt_at s k
      have hw : wrap64 (wrap64 (bt s k) * 256) = bt s k * 256 := by
        have := bt_range s k
        unfold wrap64
        omega
      obtain ⟨hb2, hb3⟩ := bt_range s k
      have HS := Aside0.mk (take_rd (l := bytesOf s) (k := k) (by omega))
      rw [rd_bytesOf] at HS
      have HE := Aside0.mk (show tI (BitVec.ofInt 16 (bt s k) <<< 8) = bt s k * 256 by rw [tI_shl, tI_ofInt]; omega)
      go_wp2_with (go_at_call 149; (refine (calls_at' (by rw [HE.out]) (rXor_calls x (BitVec.ofInt 16 (bt s k) <<< 8) _)).mono ?_); rintro e w1 ⟨rfl, rfl⟩)
      clear hb hw hb2 hb3
      obtain ⟨z, hz⟩ : ∃ z, z = x ^^^ (BitVec.ofInt 16 (bt s k) <<< 8) := ⟨_, rfl⟩
      rw [← hz]
      have HZ := Aside0.mk hz
      clear hz
      go_loop [5, 7] (fun n i => ∃ (j : Nat) (y : V16), j ≤ 8 ∧ i = .int .i64 j ∧ n = .int .i64 (tI y) ∧ Aside0 (y = bitsV z j)) (fun _ i => (8 - intOf i).toNat)
      case atStart => exact ⟨0, z, by omega, rfl, rfl, ⟨rfl⟩⟩
      case round =>
        obtain ⟨j, y, hj, rfl, rfl, HY⟩ := hrel
        by_cases hlt : j < 8
        · obtain ⟨hy0, hy1⟩ := tI_lt y
          have HB := Aside0.mk (bitV_if y)
          have HT := Aside0.mk (tI_two y)
          generalize tI y = n at HB HT hy0 hy1 ⊢
          by_cases hm : 32768 ≤ n
          · rw [if_pos hm] at HB HT
            go_wp2_with (go_at_call 149; (refine (calls_at' (by rw [HT.out]; rfl) (rXor_calls (y <<< 1) 4129#16 _)).mono ?_); rintro e w1 ⟨rfl, rfl⟩)
            go_round
            case rel => exact ⟨j + 1, _, by omega, by go_num, rfl, ⟨by rw [bitsV, ← HY.out, HB.out]⟩⟩
            case measure => simp [intOf]; omega
          · rw [if_neg hm] at HB HT
            go_wp2
            go_round
            case rel => exact ⟨j + 1, _, by omega, by go_num, by rw [HT.out], ⟨by rw [bitsV, ← HY.out, HB.out]⟩⟩
            case measure => simp [intOf]; omega
        · obtain rfl : j = 8 := by omega
          go_wp2
          go_round
          case rel => exact ⟨k + 1, _, by omega, by go_num, rfl, ⟨by rw [HS.out, crcV_append, HY.out, HZ.out, HX.out]; rfl⟩⟩
          case measure => simp [intOf]; omega
    · obtain rfl : k = s.size := by omega
      have HE := Aside0.mk (List.take_of_length_le (Nat.le_of_eq hL))
      go_wp2
      go_ret
      rw [HX.out, HE.out]
      exact ⟨rfl, rfl⟩
end Go.Proofs.Ytbfogcckbhkciaa.Hand
namespace Go.Proofs.Ytbfogcckbhkciaa.Hand
open Go.RowKit Go.Proofs.YtbfogcckbhkciaaW.PrintWords

abbrev Part := Option Addr × Nat × List Int
def sumV (x : V16) (ps : List Part) : V16 := ps.foldl (fun x p => crcV x p.2.2) x
theorem ofInt_tI (x : V16) : BitVec.ofInt 16 (tI x) = x := by
  apply tI_inj
  rw [tI_ofInt]
  have := tI_lt x
  omega
theorem sum_calls (ps : List Part) (a : Addr) (c : Nat) (w : World) (hc : ∀ j (h : j < ps.length), w.cell? (a.add j) = some (.slice (ps[j]).1 (ps[j]).2.2.length (ps[j]).2.1))
    (hr : ∀ j (h : j < ps.length), ReadsInt w .u8 (ps[j]).1 (ps[j]).2.2.length (ps[j]).2.2 ∧ (ps[j]).2.2.length ≤ 140737488355328) (hl : ps.length ≤ 1000) :
    Calls Try.prog 123 #[.slice (some a) ps.length c] w fun e w' => e = .returned (.int .i64 (tI (sumV 0#16 ps))) ∧ Below w.heap.size w w' := by
  have HC := Aside0.mk hc
  have HR := Aside0.mk hr
  clear hc hr
  go_enter Try.func123, Try.ntmps123
  go_wp2
  go_loopw [3, 8] (fun n i wr => ∃ (k : Nat) (x : V16), k ≤ ps.length ∧ i = .int .i64 k ∧ n = .int .i64 (tI x) ∧ Aside0 (x = sumV 0#16 (ps.take k)) ∧ Aside0 (Below w.heap.size w wr)) (fun _ i _ => (ps.length - intOf i).toNat)
  case atStart => exact ⟨0, 0#16, Nat.zero_le _, rfl, rfl, ⟨rfl⟩, ⟨Below.refl _ _⟩⟩
  case round =>
    obtain ⟨k, x, hk, rfl, rfl, HX, HB⟩ := hrel
    by_cases hlt : k < ps.length
    · have hc := HC.out k hlt
      have HL := Aside0.mk (HR.out k hlt)
      have HT := Aside0.mk (show ps.take (k + 1) = ps.take k ++ [ps[k]] by rw [List.take_succ_eq_append_getElem hlt])
      obtain ⟨p, hp⟩ : ∃ p, p = ps[k] := ⟨_, rfl⟩
      rw [← hp] at hc HL HT
      have hc1 : wr.cell? (a.add k) = some (.slice p.1 p.2.2.length p.2.1) := (HB.out.cell (World.block_lt_of_cell? w _ hc)).trans hc
      clear hc hp
      go_wp2_with (go_at_call 134; (with_reducible refine (more_v (tI x) p.1 p.2.1 p.2.2 _ (HL.out.1.below HB.out) HL.out.2).mono ?_); rintro e w1 ⟨rfl, hb1⟩; have HB1 := Aside0.mk (bel_step HB.out hb1); clear hb1)
      go_roundw
      case rel => exact ⟨k + 1, crcV x p.2.2, by omega, by go_num, by rw [ofInt_tI], ⟨by rw [HT.out, sumV, List.foldl_append, HX.out]; rfl⟩, HB1⟩
      case measure => simp [intOf]; omega
    · obtain rfl : k = ps.length := by omega
      go_wp2
      go_ret
      rw [HX.out, List.take_of_length_le (Nat.le_refl _)]
      exact ⟨rfl, HB.out⟩
/-- The sum of bytes. -/
def crcI (l : List Int) : Int := tI (crcV 0#16 l)
def sealL (l : List Int) : List Int := l ++ leB (crcI l) 2
theorem sealL_length (l : List Int) : (sealL l).length = l.length + 2 := by rw [sealL, List.length_append, leB_length]
theorem sum_one (l : List Int) (A : Option Addr) (c g n : Nat) (w : World) (hg : w.heap[g]? = some (.cells #[.slice A l.length c] 23 (0, 0))) (hr : ReadsInt w .u8 A l.length l) (hl : l.length ≤ 140737488355328) :
    Calls Try.prog 123 #[.slice (some ⟨g, 0, none⟩) 1 n] w fun e w' => e = .returned (.int .i64 (crcI l)) ∧ Below w.heap.size w w' :=
  sum_calls [(A, c, l)] ⟨g, 0, none⟩ n w (fun j h => by
    obtain rfl : j = 0 := by simpa using h
    simpa [Addr.add] using cell_of_one hg) (fun j h => by
    obtain rfl : j = 0 := by simpa using h
    exact ⟨hr, hl⟩) (by simp)
set_option maxHeartbeats 1000000 in
theorem seal_calls (A : Option Addr) (c : Nat) (l : List Int) (w : World) (hr : ReadsInt w .u8 A l.length l) (hl : l.length + 8 ≤ 140737488355328) :
    Calls Try.prog 93 #[.slice A l.length c] w fun e w' => ∃ v : Value, e = .returned v ∧ Kd.R (Kd.int .u8) 5 w' 0 (New w) v (sealL l) ∧ Below w.heap.size w w' := by
  have HR := Aside0.mk hr
  obtain ⟨hc0, hc1⟩ : 0 ≤ crcI l ∧ crcI l < 65536 := tI_lt _
  have HP := Aside0.mk (show fitsB (crcI l) 2 = true by rw [fits_one _ 2 hc0 (by omega)]; simp [rfitsB, rightB, topN]; omega)
  clear hr
  go_enter Try.func93, Try.ntmps93
  go_wp2_with (first | (go_at_call 61; (with_reducible refine (clone_bytes A c l w HR.out (by omega)).mono ?_); rintro e w1 ⟨v1, rfl, hr1, hb1⟩; have HR1 := Aside0.mk (own_new hr1 (Nat.le_refl _)); have HB1 := Aside0.mk hb1; clear hr1 hb1) | (go_at_call 123; (with_reducible refine (sum_one l A c w1.heap.size 1 _ (heap_alloc_new w1 _) (HR.out.below (below_alloc HB1.out _)) (by omega)).mono ?_); rintro e w2 ⟨rfl, hb2⟩; have HB2 := Aside0.mk (bel_step (below_alloc HB1.out _) hb2); have HR2 := Aside0.mk (Kd.R_below HR1.out (bel_step (below_alloc (Below.refl _ _) _) hb2)); clear hb2) | (go_at_call 92; (with_reducible refine (put_any (New w) v1 l 2 (crcI l) _ HR2.out (by omega)).mono ?_); rw [HP.out]; rintro e w3 ⟨v3, rfl, hr3, hf3⟩; have HR3 := Aside0.mk hr3; have HB3 := Aside0.mk (HB2.out.trans (hf3.below _ HB2.out.size (fun b hb => hb))); clear hr3 hf3))
  go_ret
  have h3 := HR3.out
  rw [putL_two hc0 hc1] at h3
  refine ⟨_, rfl, Kd.R_mono h3 (fun k hk => ?_), HB3.out⟩
  rcases hk with hk | hk
  · exact hk
  · exact Nat.le_trans HB2.out.size hk
end Go.Proofs.Ytbfogcckbhkciaa.Hand
namespace Go.Proofs.Ytbfogcckbhkciaa.Hand
open Go.RowKit Go.Maps Go.Proofs.YtbfogcckbhkciaaW.PrintWords
set_option linter.unusedVariables false
set_option linter.unusedSimpArgs false
/-- What a step does. -/
inductive StepM where
  | wr (a : Nat) (l : List Int)
  | fl (a n : Nat)
  | fe
def Dev.step (d : Dev) : StepM → Dev
  | .wr a l => if a + l.length ≤ d.B.length then d.write a l else d
  | .fl a n => if a + n ≤ d.B.length then d.flush a n else d
  | .fe => d.fence
def Dev.steps (d : Dev) (ms : List StepM) : Dev := ms.foldl Dev.step d
def OkM : StepM → Prop
  | .wr _ l => Bys l
  | _ => True
theorem Dev.step_ok {d : Dev} (h : d.Ok) {m : StepM} (hm : OkM m) : (d.step m).Ok ∧ (d.step m).B.length = d.B.length := by
  cases m with
  | wr a l =>
    simp only [Dev.step]
    split
    · rename_i hi
      exact ⟨h.write hm hi, by simp only [Dev.write]; exact splice_length hi⟩
    · exact ⟨h, rfl⟩
  | fl a n =>
    simp only [Dev.step]
    split
    · exact ⟨h.flush a n, rfl⟩
    · exact ⟨h, rfl⟩
  | fe => exact ⟨h.fence, rfl⟩
theorem Dev.steps_ok {d : Dev} (h : d.Ok) {ms : List StepM} (hm : ∀ m ∈ ms, OkM m) : (d.steps ms).Ok ∧ (d.steps ms).B.length = d.B.length := by
  induction ms generalizing d with
  | nil => exact ⟨h, rfl⟩
  | cons m ms ih =>
    obtain ⟨h1, h2⟩ := Dev.step_ok h (hm m (List.mem_cons_self ..))
    obtain ⟨h3, h4⟩ := ih h1 (fun x hx => hm x (List.mem_cons_of_mem _ hx))
    exact ⟨h3, h4.trans h2⟩
theorem Dev.steps_snoc (d : Dev) (ms : List StepM) (m : StepM) : d.steps (ms ++ [m]) = (d.steps ms).step m := by simp [Dev.steps, List.foldl_append]
theorem insE_nat (len a n : Nat) : insE len a n = if a + n ≤ len then 0 else 30 := by
  unfold insE
  rw [if_neg (by omega)]
  by_cases h : a + n ≤ len
  · rw [if_neg (by omega), if_pos h]
  · rw [if_pos (by omega), if_neg h]
/-- The steps that write X from at on. -/
def wrsN (at_ : Nat) (X : List Int) (j : Nat) : List StepM := (List.range j).map fun i => .wr (at_ + 8 * i) (cut X (8 * i) 8)
theorem wrsN_succ (at_ : Nat) (X : List Int) (j : Nat) : wrsN at_ X (j + 1) = wrsN at_ X j ++ [.wr (at_ + 8 * j) (cut X (8 * j) 8)] := by
  simp [wrsN, List.range_succ]
theorem mod_splitq (n a : Int) (ha : 0 < a) : n % (a * 256) = a * (n / a % 256) + n % a := by
  have h1 := Int.mul_ediv_add_emod n a
  have h2 := Int.mul_ediv_add_emod (n / a) 256
  have h3 := Int.emod_nonneg n (Int.ne_of_gt ha)
  have h4 := Int.emod_lt_of_pos n ha
  have h5 : 0 ≤ n / a % 256 ∧ n / a % 256 ≤ 255 := by omega
  have h6 : a * (n / a % 256) ≤ a * 255 := Int.mul_le_mul_of_nonneg_left h5.2 (Int.le_of_lt ha)
  have h7 : 0 ≤ a * (n / a % 256) := Int.mul_nonneg (Int.le_of_lt ha) h5.1
  have e : n = (a * (n / a % 256) + n % a) + a * 256 * (n / a / 256) := by
    have : a * (n / a) = a * (256 * (n / a / 256) + n / a % 256) := by rw [h2]
    rw [Int.mul_add, ← Int.mul_assoc] at this
    omega
  conv => lhs; rw [e]
  rw [Int.add_mul_emod_self_left]
  exact Int.emod_eq_of_lt (by omega) (by omega)
theorem numL_leBq (n : Int) (k : Nat) : numL (leB n k) = n % 2 ^ (8 * k) := by
  induction k with
  | zero => simp [leB, numL, Int.emod_one]
  | succ k ih =>
    rw [leB, numL_append, ih, leB_length, pow256, Nat.mul_add, Int.pow_add]
    simp only [numL, Int.mul_zero, Int.add_zero]
    have h2 : (0 : Int) < 2 ^ (8 * k) := Int.pow_pos (by omega)
    have h3 : (2 : Int) ^ (8 * 1) = 256 := by decide
    rw [h3, mod_splitq n _ h2, Int.add_comm]
theorem leB_bysq (n : Int) (k : Nat) : Bys (leB n k) := by
  induction k with
  | zero => exact fun x hx => absurd hx (by simp [leB])
  | succ k ih =>
    intro x hx
    rw [leB] at hx
    rcases List.mem_append.1 hx with hx | hx
    · exact ih x hx
    · rw [List.mem_singleton.1 hx]
      omega
theorem numL_inj : ∀ {l m : List Int}, Bys l → Bys m → l.length = m.length → numL l = numL m → l = m
  | [], [], _, _, _, _ => rfl
  | x :: l, y :: m, hl, hm, he, h => by
    have hx := hl x (List.mem_cons_self ..)
    have hy := hm y (List.mem_cons_self ..)
    simp only [numL] at h
    have h1 : x = y := by omega
    subst h1
    rw [numL_inj (fun z hz => hl z (List.mem_cons_of_mem _ hz)) (fun z hz => hm z (List.mem_cons_of_mem _ hz)) (by simpa using he) (by omega)]
end Go.Proofs.Ytbfogcckbhkciaa.Hand
namespace Go.Proofs.Ytbfogcckbhkciaa.Hand
open Go.RowKit Go.Proofs.YtbfogcckbhkciaaW.PrintWords
set_option linter.unusedVariables false
set_option linter.unusedSimpArgs false

/-- A mark's first bytes. -/
def markH (gen which : Int) : List Int := leB gen 4 ++ [which, 0]
def markL (gen which : Int) : List Int := sealL (markH gen which)
def MarkOk (gen which : Int) : Prop := 1 ≤ gen ∧ gen ≤ 4294967295 ∧ 0 ≤ which ∧ which ≤ 1
instance (gen which : Int) : Decidable (MarkOk gen which) := by unfold MarkOk; infer_instance
def markN (gen which : Int) : Int := if MarkOk gen which then numL (markL gen which) else 0
def readM (n : Int) : Int × Int × Bool := if n = 0 ∨ markN (n % 4294967296) (n / 4294967296 % 256) ≠ n then (0, 0, false) else (n % 4294967296, n / 4294967296 % 256, true)
theorem markH_length (gen which : Int) : (markH gen which).length = 6 := by simp [markH, leB_length]
theorem markL_length (gen which : Int) : (markL gen which).length = 8 := by rw [markL, sealL_length, markH_length]
theorem sealL_bys {l : List Int} (h : Bys l) : Bys (sealL l) := by
  intro x hx
  rcases List.mem_append.1 hx with hx | hx
  · exact h x hx
  · exact leB_bysq _ _ x hx
theorem markH_bys {gen which : Int} (h : MarkOk gen which) : Bys (markH gen which) := by
  intro x hx
  rcases List.mem_append.1 hx with hx | hx
  · exact leB_bysq _ _ x hx
  · simp only [List.mem_cons, List.not_mem_nil, or_false] at hx
    obtain ⟨h1, h2, h3, h4⟩ := h
    omega
theorem markL_bys {gen which : Int} (h : MarkOk gen which) : Bys (markL gen which) := sealL_bys (markH_bys h)
theorem markN_eq {gen which : Int} (h : MarkOk gen which) : markN gen which = gen + 4294967296 * which + 281474976710656 * crcI (markH gen which) := by
  obtain ⟨h1, h2, h3, h4⟩ := h
  have hc := tI_lt (crcV 0#16 (markH gen which))
  have hc' : crcI (markH gen which) % 2 ^ (8 * 2) = crcI (markH gen which) := Int.emod_eq_of_lt hc.1 (by have := hc.2; unfold crcI; omega)
  rw [markN, if_pos ⟨h1, h2, h3, h4⟩, markL, sealL, markH, List.append_assoc, numL_append, numL_append, numL_leBq, numL_leBq, leB_length, ← markH, hc']
  simp only [numL, List.length_cons, List.length_nil]
  rw [Int.emod_eq_of_lt (by omega) (by omega)]
  omega
theorem markN_range (gen which : Int) : 0 ≤ markN gen which ∧ markN gen which < 18446744073709551616 := by
  by_cases h : MarkOk gen which
  · rw [markN_eq h]
    obtain ⟨h1, h2, h3, h4⟩ := h
    have hc := tI_lt (crcV 0#16 (markH gen which))
    rw [← crcI] at hc
    omega
  · rw [markN, if_neg h]
    omega
theorem readM_mark {gen which : Int} (h : MarkOk gen which) : readM (markN gen which) = (gen, which, true) := by
  have e := markN_eq h
  have hc := tI_lt (crcV 0#16 (markH gen which))
  rw [← crcI] at hc
  obtain ⟨h1, h2, h3, h4⟩ := h
  have e1 : markN gen which % 4294967296 = gen := by omega
  have e2 : markN gen which / 4294967296 % 256 = which := by omega
  rw [readM, e1, e2, if_neg (by omega)]
theorem readM_cases (n : Int) : readM n = (0, 0, false) ∨ ∃ gen which, MarkOk gen which ∧ n = markN gen which ∧ readM n = (gen, which, true) := by
  unfold readM
  split
  · exact .inl rfl
  · rename_i h
    simp only [not_or, ne_eq, Decidable.not_not] at h
    refine .inr ⟨_, _, ?_, h.2.symm, rfl⟩
    apply Classical.byContradiction
    intro hn
    rw [markN, if_neg hn] at h
    exact h.1 h.2.symm
end Go.Proofs.Ytbfogcckbhkciaa.Hand
namespace Go.Proofs.Ytbfogcckbhkciaa.Hand
open Go.RowKit Go.Proofs.YtbfogcckbhkciaaW.PrintWords
set_option linter.unusedVariables false
set_option linter.unusedSimpArgs false
theorem own_rebase {w : World} {base base' : Nat} {e : TypeId} {size n : Nat} {v : Value} {xs : List Value} (h : w.ownsRow base e size v n xs) (hb : ∀ k, v.ownBlock = some k → base' ≤ k) : w.ownsRow base' e size v n xs := by
  obtain ⟨h1, h2⟩ := h
  refine ⟨h1, ?_⟩
  rcases h2 with h2 | ⟨g, cap, cur, rfl, hg, r⟩
  · exact .inl h2
  · exact .inr ⟨g, cap, cur, rfl, hb g rfl, r⟩
theorem R_rebase {w w0 : World} {ok : Nat → Prop} {v : Value} {xs : List Int} {q : IntKind} {e : Nat} {b : Nat} (h : Kd.R (Kd.int q) e w0 b (New w) v xs) : Kd.R (Kd.int q) e w0 w.heap.size (fun _ => True) v xs :=
  Kd.R_of_own (own_rebase (Kd.own_of_R h) (fun k hk => h.1 k hk)) (fun _ _ => trivial)
theorem mark_no (gen which : Int) (w : World) (h : ¬ MarkOk gen which) :
    Calls Try.prog 52 #[.int .i64 gen, .int .i64 which] w fun e w' => e = .returned (.int .u64 (markN gen which)) ∧ Below w.heap.size w w' := by
  have HN := Aside0.mk (show markN gen which = 0 from if_neg h)
  rcases (show gen < 1 ∨ (¬ gen < 1 ∧ 4294967295 < gen) ∨ (¬ gen < 1 ∧ ¬ 4294967295 < gen ∧ which < 0) ∨ (¬ gen < 1 ∧ ¬ 4294967295 < gen ∧ ¬ which < 0 ∧ 1 < which) by unfold MarkOk at h; omega) with h1 | ⟨h0, h1⟩ | ⟨h0, h1, h2⟩ | ⟨h0, h1, h2, h3⟩
  all_goals
    clear h
    go_enter Try.func52, Try.ntmps52
    go_wp2
    go_ret
    rw [HN.out]
    exact ⟨rfl, Below.refl _ _⟩
theorem gNum8 {l : List Int} (h : l.length = 8) : gNum l 0 8 = numL l := by
  rw [gNum, if_pos (by rw [h]; rfl), cut]
  simp [List.take_of_length_le (Nat.le_of_eq h)]
theorem get8 (A : Option Addr) (c : Nat) (l : List Int) (w : World) (hl : l.length = 8) (hr : ReadsInt w .u8 A l.length l) (hb : Bys l) :
    Calls Try.prog 94 #[.slice A l.length c, .int .i64 0, .int .i64 8] w fun e w' => e = .returned (.tuple #[.int .u64 (numL l), .bool true]) ∧ Below w.heap.size w w' := by
  refine (get_any A c l 0 8 w hr hb).mono fun e w' he => ⟨?_, he.2⟩
  rw [he.1, gNum8 hl, hl]
  rfl
theorem seal6 (A : Option Addr) (c : Nat) (gen which : Int) (w : World) (hr : ReadsInt w .u8 A (markH gen which).length (markH gen which)) :
    Calls Try.prog 93 #[.slice A (markH gen which).length c] w fun e w' => ∃ v : Value, e = .returned v ∧ Kd.R (Kd.int .u8) 5 w' 0 (New w) v (markL gen which) ∧ Below w.heap.size w w' :=
  seal_calls A c (markH gen which) w hr (by rw [markH_length]; omega)
set_option maxRecDepth 100000 in
theorem mark_yes (gen which : Int) (w : World) (h : MarkOk gen which) :
    Calls Try.prog 52 #[.int .i64 gen, .int .i64 which] w fun e w' => e = .returned (.int .u64 (markN gen which)) ∧ Below w.heap.size w w' := by
  have HN := Aside0.mk (show markN gen which = numL (markL gen which) from if_pos h)
  have HMB := Aside0.mk (markL_bys h)
  obtain ⟨h1, h2, h3, h4⟩ := h
  have hfit : fitsB gen 4 = true := by rw [fits_one _ 4 (by omega) (by omega)]; simp [rfitsB, rightB, topN]; omega
  have HF := Aside0.mk hfit
  have HP := Aside0.mk (show putL gen 4 = leB gen 4 by rw [putL, hfit]; rfl)
  have e1 : IntKind.u64.wrap gen = gen := u64_wrap_of (by omega) (by omega)
  have e2 : IntKind.u8.wrap which = which := by simp [IntKind.wrap, IntKind.signed, IntKind.bits]; omega
  clear hfit
  go_enter Try.func52, Try.ntmps52
  go_wp2_with (first | (go_at_call 92; ((with_reducible refine (put_new 4 gen w).mono ?_); rw [HF.out, HP.out]; rintro e w1 ⟨v1, rfl, hr1, hb1⟩; have HR1 := Aside0.mk (Kd.R_below (R_rebase (ok := New w) hr1) (below_alloc (Below.refl w1.heap.size w1) (.cells #[.int .u8 which, .int .u8 0] 5))); have HB1 := Aside0.mk hb1; clear hr1 hb1)) | ((with_reducible refine gate_bi (b := .append) (xs := #[.tmp 29, .tmp 32]) rfl ?_); go_must (refine Kd.R_append_row (Value.int .u8) 0 (h1 := fun _ => rfl) (w0 := w) w.heap.size rfl (.tmp 29) (.tmp 32) 23 5 (.int .u8 0) 1 rfl Try.underlying23 info_u8 rfl (by decide) v1 (leB gen 4) [which, 0] (some ⟨w1.heap.size, 0, none⟩) 2 2 (fun _ => True) rfl rfl (fun _ _ => trivial) HR1.out (Kd.C_of_reads (d := (0 : Int)) (h1 := fun _ => rfl) (lit_reads (l := [which, 0]) (by simp))) (below_alloc HB1.out _) (Nat.le_trans HB1.out.size (by simp)) (by simp [leB_length]) ?_); intro v2 w2 ho2 hb2 hg2 hat2; have HO2 := Aside0.mk (show Kd.R (Kd.int .u8) 5 w2 w.heap.size (fun _ => True) v2 (markH gen which) from ho2); have HB2 := Aside0.mk hb2; obtain ⟨A2, c2, rfl, hc2, hR2⟩ := reads_own2 HO2.out; have HR2 := Aside0.mk hR2; clear hc2 hR2; clear ho2 hb2 hg2 hat2) | (go_at_call 93; ((with_reducible refine (seal6 A2 c2 gen which w2 HR2.out).mono ?_); rintro e w3 ⟨v3, rfl, hr3, hb3⟩; have HB3 := Aside0.mk (bel_step HB2.out hb3); obtain ⟨A3, c3, rfl, _, hR3⟩ := reads_own2 hr3; have HR3 := Aside0.mk hR3; clear hr3 hb3 hR3)) | (go_at_call 94; ((with_reducible refine (get8 A3 c3 (markL gen which) w3 (markL_length gen which) HR3.out HMB.out).mono ?_); rintro e w4 ⟨rfl, hb4⟩; have HB4 := Aside0.mk (bel_step HB3.out hb4); clear hb4)))
  go_ret
  rw [HN.out]
  exact ⟨rfl, HB4.out⟩
theorem mark_calls (gen which : Int) (w : World) : Calls Try.prog 52 #[.int .i64 gen, .int .i64 which] w fun e w' => e = .returned (.int .u64 (markN gen which)) ∧ Below w.heap.size w w' := by
  by_cases h : MarkOk gen which
  · exact mark_yes gen which w h
  · exact mark_no gen which w h
theorem and32 {n : Int} (h0 : 0 ≤ n) (h1 : n < 18446744073709551616) : bits .and .u64 n 4294967295 = n % 4294967296 := by
  obtain ⟨n, rfl⟩ := Int.eq_ofNat_of_zero_le h0
  rw [show (4294967295 : Int) = ((4294967295 : Nat) : Int) from rfl, bits_and_u64_nat n 4294967295 (by omega) (by omega)]
  rw [show (4294967295 : Nat) = 2 ^ 32 - 1 from rfl, Nat.and_two_pow_sub_one_eq_mod]
  omega
theorem and8 {n : Int} (h0 : 0 ≤ n) (h1 : n < 18446744073709551616) : bits .and .u64 n 255 = n % 256 := by
  obtain ⟨n, rfl⟩ := Int.eq_ofNat_of_zero_le h0
  rw [show (255 : Int) = ((255 : Nat) : Int) from rfl, bits_and_u64_nat n 255 (by omega) (by omega)]
  rw [show (255 : Nat) = 2 ^ 8 - 1 from rfl, Nat.and_two_pow_sub_one_eq_mod]
  omega
set_option maxRecDepth 100000 in
theorem mread_calls (n : Int) (w : World) (h0 : 0 ≤ n) (h1 : n < 18446744073709551616) :
    Calls Try.prog 53 #[.int .u64 n] w fun e w' => e = .returned (.tuple #[.int .i64 (readM n).1, .int .i64 (readM n).2.1, .bool (readM n).2.2]) ∧ Below w.heap.size w w' := by
  have a1 := and32 h0 h1
  have a2 := and8 (n := n / 4294967296) (by omega) (by omega)
  have a3 : IntKind.i64.wrap (n % 4294967296) = n % 4294967296 := IntWalk.i64_in _ (by omega)
  have a4 : IntKind.i64.wrap (n / 4294967296 % 256) = n / 4294967296 % 256 := IntWalk.i64_in _ (by omega)
  obtain ⟨g, hg⟩ : ∃ g, g = n % 4294967296 := ⟨_, rfl⟩
  obtain ⟨k, hk⟩ : ∃ k, k = n / 4294967296 % 256 := ⟨_, rfl⟩
  by_cases hz : n = 0
  · have HN := Aside0.mk (show readM n = (0, 0, false) by rw [readM, if_pos (.inl hz)])
    have hz2 : (n == 0) = true := by simpa using hz
    rw [HN.out]
    rw [← hg] at a1 a3
    rw [← hk] at a2 a4
    clear hg hk h0 h1 hz
    go_enter Try.func53, Try.ntmps53
    go_wp2
    go_ret3
    exact ⟨rfl, Below.refl _ _⟩
  · have hz2 : (n == 0) = false := by simpa using hz
    by_cases hm : markN g k = n
    · have HN := Aside0.mk (show readM n = (g, k, true) by rw [readM, ← hg, ← hk, if_neg (by rw [hm]; simpa using hz)])
      have HM := Aside0.mk hm
      rw [HN.out]
      rw [← hg] at a1 a3
      rw [← hk] at a2 a4
      clear hg hk h0 h1 hz hm
      go_enter Try.func53, Try.ntmps53
      go_wp2_with (go_at_call 52; ((with_reducible refine (mark_calls g k w).mono ?_); rw [HM.out]; rintro e w1 ⟨rfl, hb⟩; have HB1 := Aside0.mk hb; clear hb))
      go_ret3
      exact ⟨rfl, HB1.out⟩
    · have HN := Aside0.mk (show readM n = (0, 0, false) by rw [readM, ← hg, ← hk, if_pos (.inr hm)])
      have hm2 : (markN g k != n) = true := by simpa using hm
      rw [HN.out]
      rw [← hg] at a1 a3
      rw [← hk] at a2 a4
      clear hg hk h0 h1 hz hm
      go_enter Try.func53, Try.ntmps53
      go_wp2_with (go_at_call 52; ((with_reducible refine (mark_calls g k w).mono ?_); rintro e w1 ⟨rfl, hb⟩; have HB1 := Aside0.mk hb; clear hb))
      go_ret3
      exact ⟨rfl, HB1.out⟩
end Go.Proofs.Ytbfogcckbhkciaa.Hand
namespace Go.Proofs.Ytbfogcckbhkciaa.Hand
open Go.RowKit Go.Maps Go.Proofs.YtbfogcckbhkciaaW.PrintWords
set_option linter.unusedVariables false
set_option linter.unusedSimpArgs false
/-- How many bytes an area has. -/
def roomN (n : Nat) : Nat := (max n 1 - 1) / 2 * 8
theorem area_calls (n : Nat) (w : World) (h : n ≤ 8192) : Calls Try.prog 89 #[.int .i64 n] w fun e w' => e = .returned (.int .i64 (((max n 1 - 1) / 2 : Nat) : Int)) ∧ w = w' := by
  have HM := Aside0.mk (show (((max n 1 - 1) / 2 : Nat) : Int) = (max (n : Int) 1 - 1) / 2 by omega)
  go_enter Try.func89, Try.ntmps89
  go_wp2
  all_goals
    go_ret
    rw [HM.out]
    exact ⟨rfl, rfl⟩
theorem room_calls (n : Nat) (w : World) (h : n ≤ 8192) : Calls Try.prog 50 #[.int .i64 n] w fun e w' => e = .returned (.int .i64 (roomN n : Nat)) ∧ w = w' := by
  have HA := Aside0.mk (area_calls n w h)
  have HM := Aside0.mk (show ((roomN n : Nat) : Int) = (((max n 1 - 1) / 2 : Nat) : Int) * 8 by unfold roomN; push_cast; rfl)
  have hb : ((max n 1 - 1) / 2 : Nat) ≤ 8192 := by omega
  generalize ((max n 1 - 1) / 2 : Nat) = q at HM hb HA
  go_enter Try.func50, Try.ntmps50
  go_wp2_with (go_at_call 89; ((with_reducible refine HA.out.mono ?_); rintro e w1 ⟨rfl, rfl⟩))
  go_ret
  rw [HM.out]
  exact ⟨rfl, rfl⟩
theorem words_calls (w : World) (p : Nat) (v : Value) (s f : Nat) (d : Dev) (h : HasD w p v s f d) :
    Calls Try.prog 91 #[.pointer (some ⟨p, 0, none⟩)] w fun e w' => e = .returned (.int .i64 ((d.B.length / 8 : Nat) : Int)) ∧ w = w' := by
  have HL := Aside0.mk (len_calls w p v s f d h)
  have HM := Aside0.mk (show (((d.B.length / 8 : Nat) : Int)) = (d.B.length : Int) / 8 by omega)
  have hm := h.ok.max
  clear h
  go_enter Try.func91, Try.ntmps91
  go_wp2_with (go_at_call 28; ((with_reducible refine HL.out.mono ?_); rintro e w1 ⟨rfl, rfl⟩))
  go_ret
  rw [HM.out]
  exact ⟨rfl, rfl⟩
/-- A device's mark. -/
def dmark (d : Dev) : Int × Int := if d.B.length < 8 then (0, 0) else ((readM (numL (cut d.B 0 8))).1, (readM (numL (cut d.B 0 8))).2.1)
theorem num8_range {l : List Int} (hb : Bys l) (hl : l.length = 8) : 0 ≤ numL l ∧ numL l < 18446744073709551616 := by
  have h1 := numL_nonneg hb
  have h2 := numL_lt hb
  rw [hl] at h2
  exact ⟨h1, h2⟩
theorem get_none (w : World) : Calls Try.prog 94 #[.slice none 0 0, .int .i64 0, .int .i64 8] w fun e w' => e = .returned (.tuple #[.int .u64 0, .bool false]) ∧ Below w.heap.size w w' :=
  get_no [] none 0 0 8 w (by decide) (by decide)
theorem read_none (w : World) (p : Nat) (v : Value) (s f : Nat) (d : Dev) (h : HasD w p v s f d) (hl : d.B.length < 8) :
    Calls Try.prog 31 #[.pointer (some ⟨p, 0, none⟩), .int .i64 0, .int .i64 8] w fun e w' => e = .returned (.tuple #[.slice none 0 0, .int .i64 30]) ∧ Below w.heap.size w w' := by
  have : insE d.B.length 0 8 = 30 := by
    unfold insE
    rw [if_neg (by omega), if_pos (by omega)]
  refine (read_bad w p v s f d 0 8 h (by rw [this]; decide)).mono fun e w' he => ?_
  rw [this] at he
  exact he
theorem read_first (w : World) (p : Nat) (v : Value) (s f : Nat) (d : Dev) (h : HasD w p v s f d) (hl : 8 ≤ d.B.length) :
    Calls Try.prog 31 #[.pointer (some ⟨p, 0, none⟩), .int .i64 0, .int .i64 8] w fun e w' => ∃ A c, e = .returned (.tuple #[.slice A (cut d.B 0 8).length c, .int .i64 0]) ∧ ReadsInt w' .u8 A (cut d.B 0 8).length (cut d.B 0 8) ∧ Below w.heap.size w w' := by
  refine (show Calls Try.prog _ #[.pointer (some ⟨p, 0, none⟩), .int .i64 0, .int .i64 8] _ _ from read_good w p v s f d 0 8 h (by unfold insE; rw [if_neg (by omega), if_neg (by omega)])).mono fun e w' he => ?_
  obtain ⟨u, rfl, hu, hb⟩ := he
  obtain ⟨A, c, rfl, _, hr⟩ := reads_own2 hu
  exact ⟨A, c, rfl, hr, hb⟩
theorem dmark_calls (w : World) (p : Nat) (v : Value) (s f : Nat) (d : Dev) (h : HasD w p v s f d) :
    Calls Try.prog 90 #[.pointer (some ⟨p, 0, none⟩)] w fun e w' => e = .returned (.tuple #[.int .i64 (dmark d).1, .int .i64 (dmark d).2]) ∧ Below w.heap.size w w' := by
  by_cases hl : d.B.length < 8
  · have HH := Aside0.mk h
    have HD := Aside0.mk (show dmark d = (0, 0) from if_pos hl)
    have HZ := Aside0.mk (fun w => (mread_calls 0 w (by decide) (by decide)))
    rw [HD.out]
    clear h
    go_enter Try.func90, Try.ntmps90
    go_wp2_with (first | (go_at_call 31; ((with_reducible refine (read_none w p v s f d HH.out hl).mono ?_); rintro e w1 ⟨rfl, hb⟩; have HB1 := Aside0.mk hb; clear hb)) | (go_at_call 94; ((with_reducible refine (get_none w1).mono ?_); rintro e w2 ⟨rfl, hb⟩; have HB2 := Aside0.mk (bel_step HB1.out hb); clear hb)) | (go_at_call 53; ((with_reducible refine (HZ.out w2).mono ?_); rintro e w3 ⟨rfl, hb⟩; have HB3 := Aside0.mk (bel_step HB2.out hb); clear hb)))
    go_ret2
    exact ⟨rfl, HB3.out⟩
  · have HH := Aside0.mk h
    have h8 : (cut d.B 0 8).length = 8 := cut_length (by omega)
    have HC8 := Aside0.mk h8
    have HBY := Aside0.mk (cut_bys h.ok.bys 0 8)
    have HD := Aside0.mk (show dmark d = _ from if_neg hl)
    have HG := Aside0.mk (num8_range (cut_bys h.ok.bys 0 8) h8)
    rw [HD.out]
    have HRF := Aside0.mk (read_first w p v s f d h (by omega))
    generalize cut d.B 0 8 = L at *
    clear h h8
    go_enter Try.func90, Try.ntmps90
    go_wp2_with (first | (go_at_call 31; ((with_reducible refine HRF.out.mono ?_); rintro e w1 ⟨A1, c1, rfl, hr, hb⟩; have HB1 := Aside0.mk hb; have HR1 := Aside0.mk hr; clear hb hr)) | (go_at_call 94; ((with_reducible refine (get8 A1 c1 L w1 HC8.out HR1.out HBY.out).mono ?_); rintro e w2 ⟨rfl, hb⟩; have HB2 := Aside0.mk (bel_step HB1.out hb); clear hb)) | (go_at_call 53; ((with_reducible refine (mread_calls (numL L) w2 HG.out.1 HG.out.2).mono ?_); rintro e w3 ⟨rfl, hb⟩; have HB3 := Aside0.mk (bel_step HB2.out hb); clear hb)))
    go_ret2
    exact ⟨rfl, HB3.out⟩
/-- What a device's mark may be. -/
theorem dmark_cases (d : Dev) : dmark d = (0, 0) ∨ MarkOk (dmark d).1 (dmark d).2 := by
  unfold dmark
  split
  · exact .inl rfl
  · rcases readM_cases (numL (cut d.B 0 8)) with h | ⟨g, k, hk, _, h⟩
    · rw [h]; exact .inl rfl
    · rw [h]; exact .inr hk
def roomD (d : Dev) : Nat := roomN (d.B.length / 8)
/-- What Load tells of bytes. -/
def loadL (d : Dev) : List Int := if (dmark d).1 = 0 then [] else cut d.B (8 + (dmark d).2.toNat * roomD d) (roomD d)
theorem load_none (w : World) (p : Nat) (v : Value) (s f : Nat) (d : Dev) (h : HasD w p v s f d) (h0 : (dmark d).1 = 0) :
    Calls Try.prog 51 #[.pointer (some ⟨p, 0, none⟩)] w fun e w' => e = .returned (.tuple #[.slice none 0 0, .int .i64 0, .int .i64 190]) ∧ Below w.heap.size w w' := by
  have HM := Aside0.mk (dmark_calls w p v s f d h)
  rw [h0] at HM
  clear h
  go_enter Try.func51, Try.ntmps51
  go_wp2_with (go_at_call 90; ((with_reducible refine HM.out.mono ?_); rintro e w1 ⟨rfl, hb⟩; have HB1 := Aside0.mk hb; clear hb))
  go_ret3
  exact ⟨rfl, HB1.out⟩
theorem area_in {d : Dev} (h : d.Ok) {k : Int} (hk : 0 ≤ k ∧ k ≤ 1) (h8 : 8 ≤ d.B.length) : 8 + k.toNat * roomD d + roomD d ≤ d.B.length := by
  have := h.len
  unfold roomD roomN
  rcases (show k = 0 ∨ k = 1 by omega) with rfl | rfl
  · simp only [Int.toNat_zero, Nat.zero_mul]
    omega
  · simp only [Int.toNat_one, Nat.one_mul]
    omega
theorem dmark_len {d : Dev} (h : (dmark d).1 ≠ 0) : 8 ≤ d.B.length := by
  unfold dmark at h
  split at h
  · exact absurd rfl h
  · omega
theorem load_more (w : World) (p : Nat) (v : Value) (s f : Nat) (d : Dev) (h : HasD w p v s f d) (h0 : (dmark d).1 ≠ 0) :
    Calls Try.prog 51 #[.pointer (some ⟨p, 0, none⟩)] w fun e w' => ∃ A c, e = .returned (.tuple #[.slice A (loadL d).length c, .int .i64 (dmark d).1, .int .i64 0]) ∧ ReadsInt w' .u8 A (loadL d).length (loadL d) ∧ (loadL d).length ≤ c ∧ (0 < (loadL d).length → ∀ ad, A = some ad → w.heap.size ≤ ad.block) ∧ Below w.heap.size w w' := by
  have HM := Aside0.mk (dmark_calls w p v s f d h)
  have hk : MarkOk (dmark d).1 (dmark d).2 := (dmark_cases d).resolve_left (fun e => h0 (by rw [e]))
  have h8 := dmark_len h0
  have hok := h.ok
  have hmax := hok.max
  have HLL := Aside0.mk (show loadL d = _ from if_neg h0)
  have hin := area_in hok ⟨hk.2.2.1, hk.2.2.2⟩ h8
  have HW := Aside0.mk (fun (w : World) (h : HasD w p v s f d) => words_calls w p v s f d h)
  have HR := Aside0.mk (fun (w : World) => room_calls (d.B.length / 8) w (by omega))
  obtain ⟨m, hm⟩ : ∃ m, m = d.B.length / 8 := ⟨_, rfl⟩
  rw [← hm] at HW HR
  obtain ⟨g, hg⟩ : ∃ g, g = (dmark d).1 := ⟨_, rfl⟩
  obtain ⟨k, hkk⟩ : ∃ g : Nat, (g : Int) = (dmark d).2 := ⟨(dmark d).2.toNat, Int.toNat_of_nonneg hk.2.2.1⟩
  have hk1 : k ≤ 1 := by have := hk.2.2.2; omega
  rw [← hkk] at HM hin HLL
  rw [← hg] at HM h0 ⊢
  rw [Int.toNat_natCast] at hin HLL
  obtain ⟨n, hn⟩ : ∃ n, n = roomD d := ⟨_, rfl⟩
  rw [show roomN m = n by rw [hm]; exact hn.symm] at HR
  rw [← hn] at hin HLL
  have e1 : IntKind.i64.wrap ((k : Int) * n) = ((k * n : Nat) : Int) := by
    rw [IntWalk.i64_in]
    · push_cast; rfl
    · rcases (show k = 0 ∨ k = 1 by omega) with rfl | rfl <;> omega
  have hkn : k * n ≤ 65536 := by rcases (show k = 0 ∨ k = 1 by omega) with rfl | rfl <;> omega
  have e2 : IntKind.i64.wrap (8 + ((k * n : Nat) : Int)) = ((8 + k * n : Nat) : Int) := by
    rw [IntWalk.i64_in _ (by omega)]
    push_cast; rfl
  have HH := Aside0.mk h
  have h02 : (g == 0) = false := by simpa using h0
  have HI := Aside0.mk (show insE d.B.length ((8 + k * n : Nat) : Int) n = 0 by unfold insE; rw [if_neg (by omega), if_neg (by push_cast; omega)])
  generalize 8 + k * n = a at *
  generalize k * n = kn at *
  rw [HLL.out]
  have HCL := Aside0.mk (show (cut d.B a n).length = n from cut_length (by omega))
  clear h hok hk h8 hg hkk h0 hm hn
  go_enter Try.func51, Try.ntmps51
  go_wp2_with (first | (go_at_call 90; ((with_reducible refine HM.out.mono ?_); rintro e w1 ⟨rfl, hb⟩; have HB1 := Aside0.mk hb; have HD1 := Aside0.mk (HH.out.move hb); clear hb)) | (go_at_call 91; ((with_reducible refine (HW.out _ HD1.out).mono ?_); rintro e w2 ⟨rfl, rfl⟩)) | (go_at_call 50; ((with_reducible refine (HR.out _).mono ?_); rintro e w2 ⟨rfl, rfl⟩)) | (go_at_call 31; ((with_reducible refine (read_good _ p v s f d a n HD1.out HI.out).mono ?_); rintro e w2 ⟨u, rfl, hu, hb⟩; obtain ⟨A2, c2, rfl, hcc, hr⟩ := reads_own2 hu; have HR2 := Aside0.mk hr; have HCC := Aside0.mk hcc; have HGG := Aside0.mk (fun h0 ad e => Nat.le_trans HB1.out.size (own_base hu h0 ad e)); have HB2 := Aside0.mk (bel_step HB1.out hb); clear hb hu hr hcc)))
  go_ret3
  exact ⟨A2, c2, rfl, HR2.out, HCC.out, HGG.out, HB2.out⟩
theorem load_some (w : World) (p : Nat) (v : Value) (s f : Nat) (d : Dev) (h : HasD w p v s f d) (h0 : (dmark d).1 ≠ 0) :
    Calls Try.prog 51 #[.pointer (some ⟨p, 0, none⟩)] w fun e w' => ∃ A c, e = .returned (.tuple #[.slice A (loadL d).length c, .int .i64 (dmark d).1, .int .i64 0]) ∧ ReadsInt w' .u8 A (loadL d).length (loadL d) ∧ Below w.heap.size w w' :=
  (load_more w p v s f d h h0).mono fun e w' ⟨A, c, he, hr, _, _, hb⟩ => ⟨A, c, he, hr, hb⟩
end Go.Proofs.Ytbfogcckbhkciaa.Hand
namespace Go.Proofs.Ytbfogcckbhkciaa.Hand
open Go.RowKit Go.Maps Go.Proofs.YtbfogcckbhkciaaW.PrintWords
set_option linter.unusedVariables false
set_option linter.unusedSimpArgs false
/-- A step, as it stands in a row: by the blocks of its variables. -/
inductive StepV where
  | wr (bd ba bx : Nat)
  | fl (bd ba bn : Nat)
  | fe (p : Nat)
def encS : StepV → Value
  | .wr bd ba bx => .func (.func 96) #[] #[.pointer (some ⟨bd, 0, none⟩), .pointer (some ⟨ba, 0, none⟩), .pointer (some ⟨bx, 0, none⟩)]
  | .fl bd ba bn => .func (.func 98) #[] #[.pointer (some ⟨bd, 0, none⟩), .pointer (some ⟨ba, 0, none⟩), .pointer (some ⟨bn, 0, none⟩)]
  | .fe p => .func (.func 24) #[.pointer (some ⟨p, 0, none⟩)] #[]
theorem encS_one (x : StepV) : (encS x).oneCell' = true := by cases x <;> rfl
def StK : Kd StepV := Kd.scalar encS encS_one
/-- A step of a row is what it should be; all that it needs lies in blocks of T. -/
def IsSt (w : World) (T : Nat → Prop) (p : Nat) : StepV → StepM → Prop
  | .wr bd ba bx, .wr a l => T bd ∧ T ba ∧ T bx ∧ w.cell? ⟨bd, 0, none⟩ = some (.pointer (some ⟨p, 0, none⟩)) ∧ w.cell? ⟨ba, 0, none⟩ = some (.int .i64 a) ∧
      0 < l.length ∧ ∃ g o c, T g ∧ w.cell? ⟨bx, 0, none⟩ = some (.slice (some ⟨g, o, none⟩) l.length c) ∧ ReadsInt w .u8 (some ⟨g, o, none⟩) l.length l
  | .fl bd ba bn, .fl a n => T bd ∧ T ba ∧ T bn ∧ w.cell? ⟨bd, 0, none⟩ = some (.pointer (some ⟨p, 0, none⟩)) ∧ w.cell? ⟨ba, 0, none⟩ = some (.int .i64 a) ∧ w.cell? ⟨bn, 0, none⟩ = some (.int .i64 n)
  | .fe q, .fe => q = p
  | _, _ => False
theorem IsSt.move {w w1 : World} {T S : Nat → Prop} {p : Nat} {x : StepV} {m : StepM} (h : IsSt w T p x m) (hf : Fr S w w1) (hs : ∀ b, T b → ¬ S b) : IsSt w1 T p x m := by
  cases x <;> cases m <;> simp only [IsSt] at h ⊢
  · obtain ⟨h1, h2, h3, h4, h5, h0, g, o, c, h6, h7, h8⟩ := h
    exact ⟨h1, h2, h3, hf.cell h4 (hs _ h1), hf.cell h5 (hs _ h2), h0, g, o, c, h6, hf.cell h7 (hs _ h3), reads_frA h8 hf (fun _ ad e => by obtain rfl := Option.some.inj e; exact hs _ h6)⟩
  · obtain ⟨h1, h2, h3, h4, h5, h6⟩ := h
    exact ⟨h1, h2, h3, hf.cell h4 (hs _ h1), hf.cell h5 (hs _ h2), hf.cell h6 (hs _ h3)⟩
  · exact h
theorem IsSt.mono {w : World} {T T' : Nat → Prop} {p : Nat} {x : StepV} {m : StepM} (h : IsSt w T p x m) (ht : ∀ b, b < w.heap.size → T b → T' b) : IsSt w T' p x m := by
  cases x <;> cases m <;> simp only [IsSt] at h ⊢
  · obtain ⟨h1, h2, h3, h4, h5, h0, g, o, c, h6, h7, h8⟩ := h
    refine ⟨ht _ (World.block_lt_of_cell? _ _ h4) h1, ht _ (World.block_lt_of_cell? _ _ h5) h2, ht _ (World.block_lt_of_cell? _ _ h7) h3, h4, h5, h0, ?_⟩
    obtain ⟨ad, e, hx⟩ := h8.2.2 h0
    obtain rfl := Option.some.inj e
    have := World.block_lt_of_cell? _ _ (hx 0 h0)
    rw [add_plain] at this
    exact ⟨g, o, c, ht _ this h6, h7, h8⟩
  · obtain ⟨h1, h2, h3, h4, h5, h6⟩ := h
    exact ⟨ht _ (World.block_lt_of_cell? _ _ h4) h1, ht _ (World.block_lt_of_cell? _ _ h5) h2, ht _ (World.block_lt_of_cell? _ _ h6) h3, h4, h5, h6⟩
  · exact h
/-- A row of steps. -/
def IsAll (w : World) (T : Nat → Prop) (p : Nat) : List StepV → List StepM → Prop
  | [], [] => True
  | x :: xs, m :: ms => IsSt w T p x m ∧ IsAll w T p xs ms
  | _, _ => False
theorem IsAll.move {w w1 : World} {T S : Nat → Prop} {p : Nat} (hf : Fr S w w1) (hs : ∀ b, T b → ¬ S b) : ∀ {xs : List StepV} {ms : List StepM}, IsAll w T p xs ms → IsAll w1 T p xs ms
  | [], [], _ => trivial
  | x :: xs, m :: ms, h => ⟨h.1.move hf hs, IsAll.move hf hs h.2⟩
theorem IsAll.mono {w : World} {T T' : Nat → Prop} {p : Nat} (ht : ∀ b, b < w.heap.size → T b → T' b) : ∀ {xs : List StepV} {ms : List StepM}, IsAll w T p xs ms → IsAll w T' p xs ms
  | [], [], _ => trivial
  | x :: xs, m :: ms, h => ⟨h.1.mono ht, IsAll.mono ht h.2⟩
theorem IsAll.app {w : World} {T : Nat → Prop} {p : Nat} {ys : List StepV} {ns : List StepM} (h2 : IsAll w T p ys ns) : ∀ {xs : List StepV} {ms : List StepM}, IsAll w T p xs ms → IsAll w T p (xs ++ ys) (ms ++ ns)
  | [], [], _ => h2
  | x :: xs, m :: ms, h => ⟨h.1, IsAll.app h2 h.2⟩
theorem IsAll.len {w : World} {T : Nat → Prop} {p : Nat} : ∀ {xs : List StepV} {ms : List StepM}, IsAll w T p xs ms → xs.length = ms.length
  | [], [], _ => rfl
  | x :: xs, m :: ms, h => by simp [IsAll.len h.2]
theorem IsAll.get {w : World} {T : Nat → Prop} {p : Nat} : ∀ {xs : List StepV} {ms : List StepM} {k : Nat} {x : StepV}, IsAll w T p xs ms → xs[k]? = some x → ∃ m, ms[k]? = some m ∧ IsSt w T p x m
  | x :: xs, m :: ms, 0, y, h, hx => by
    simp only [List.getElem?_cons_zero, Option.some.injEq] at hx ⊢
    subst hx
    exact ⟨m, rfl, h.1⟩
  | x :: xs, m :: ms, k + 1, y, h, hx => by
    simp only [List.getElem?_cons_succ] at hx ⊢
    exact IsAll.get h.2 hx
/-- What a step of a row does, where it is called. -/
def StepsD (w : World) (p : Nat) (v : Value) (s f : Nat) (d : Dev) (m : StepM) (e : Ending) (w' : World) : Prop :=
  e = .returned (.tuple #[]) ∧ HasD w' p v s f (d.step m) ∧ Fr (OwnD v s f) w w'
theorem step_wr (w : World) (p : Nat) (v : Value) (s f : Nat) (d : Dev) (T : Nat → Prop) (bd ba bx a : Nat) (l : List Int) (h : HasD w p v s f d) (hst : IsSt w T p (.wr bd ba bx) (.wr a l)) (hok : Bys l) :
    Calls Try.prog 96 #[.pointer (some ⟨bd, 0, none⟩), .pointer (some ⟨ba, 0, none⟩), .pointer (some ⟨bx, 0, none⟩)] w (StepsD w p v s f d (.wr a l)) := by
  obtain ⟨_, _, _, h4, h5, h0, g, o, c, _, h7, h8⟩ := hst
  have hl8 := h8.2.1
  by_cases hin : a + l.length ≤ d.B.length
  · have HE := Aside0.mk (show d.step (.wr a l) = d.write a l from if_pos hin)
    have HW := Aside0.mk (write_good w p v s f d a (some ⟨g, o, none⟩) l.length c l rfl h h8 hok (by rw [insE_nat, if_pos hin]))
    clear h hok h8
    go_enter Try.func96, Try.ntmps96
    go_wp2_with (go_at_call 23; ((with_reducible refine HW.out.mono ?_); rintro e w1 ⟨rfl, hd, hf⟩; have HD := Aside0.mk hd; have HF := Aside0.mk hf; clear hd hf))
    go_end0
    rw [StepsD, HE.out]
    exact ⟨rfl, HD.out, HF.out⟩
  · have HE := Aside0.mk (show d.step (.wr a l) = d from if_neg hin)
    have HH := Aside0.mk h
    have HW := Aside0.mk (write_bad w p v s f d a (some ⟨g, o, none⟩) l.length c h hl8 (by rw [insE_nat, if_neg hin]; decide))
    clear h hok h8
    go_enter Try.func96, Try.ntmps96
    go_wp2_with (go_at_call 23; ((with_reducible refine HW.out.mono ?_); rintro e w1 ⟨rfl, hb⟩; have HB := Aside0.mk hb; clear hb))
    go_end0
    rw [StepsD, HE.out]
    exact ⟨rfl, HH.out.move HB.out, Fr.of_below HB.out _⟩
theorem step_fl (w : World) (p : Nat) (v : Value) (s f : Nat) (d : Dev) (T : Nat → Prop) (bd ba bn a n : Nat) (h : HasD w p v s f d) (hst : IsSt w T p (.fl bd ba bn) (.fl a n)) :
    Calls Try.prog 98 #[.pointer (some ⟨bd, 0, none⟩), .pointer (some ⟨ba, 0, none⟩), .pointer (some ⟨bn, 0, none⟩)] w (StepsD w p v s f d (.fl a n)) := by
  obtain ⟨_, _, _, h4, h5, h6⟩ := hst
  by_cases hin : a + n ≤ d.B.length
  · have HE := Aside0.mk (show d.step (.fl a n) = d.flush a n from if_pos hin)
    have HW := Aside0.mk (flush_calls w p v s f d a n h (by rw [insE_nat, if_pos hin]))
    clear h
    go_enter Try.func98, Try.ntmps98
    go_wp2_with (go_at_call 25; ((with_reducible refine HW.out.mono ?_); rintro e w1 ⟨rfl, hd, hf⟩; have HD := Aside0.mk hd; have HF := Aside0.mk hf; clear hd hf))
    go_end0
    rw [StepsD, HE.out]
    exact ⟨rfl, HD.out, HF.out⟩
  · have HE := Aside0.mk (show d.step (.fl a n) = d from if_neg hin)
    have HH := Aside0.mk h
    have HW := Aside0.mk (flush_bad w p v s f d a n h (by rw [insE_nat, if_neg hin]; decide))
    clear h
    go_enter Try.func98, Try.ntmps98
    go_wp2_with (go_at_call 25; ((with_reducible refine HW.out.mono ?_); rintro e w1 ⟨rfl, hb⟩; have HB := Aside0.mk hb; clear hb))
    go_end0
    rw [StepsD, HE.out]
    exact ⟨rfl, HH.out.move HB.out, Fr.of_below HB.out _⟩
theorem step_fe (w : World) (p : Nat) (v : Value) (s f : Nat) (d : Dev) (h : HasD w p v s f d) :
    Calls Try.prog 24 #[.pointer (some ⟨p, 0, none⟩)] w (StepsD w p v s f d .fe) :=
  (fence_calls w p v s f d h).mono fun e w' he => he
/-- Begin's inner functions. -/
theorem mkwr_calls (w : World) (bd : Nat) (a : Int) (A : Option Addr) (n c : Nat) :
    Calls Try.prog 95 #[.int .i64 a, .slice A n c, .pointer (some ⟨bd, 0, none⟩)] w fun e w' => e = .returned (.func (.func 96) #[] #[.pointer (some ⟨bd, 0, none⟩), .pointer (some ⟨w.heap.size, 0, none⟩), .pointer (some ⟨w.heap.size + 1, 0, none⟩)]) ∧ w' = (w.alloc (.cells #[.int .i64 a] 3)).alloc (.cells #[.slice A n c] 23) := by
  go_enter Try.func95, Try.ntmps95
  go_wp2
  go_ret
  exact ⟨rfl, rfl⟩
theorem mkfl_calls (w : World) (bd : Nat) (a n : Int) :
    Calls Try.prog 97 #[.int .i64 a, .int .i64 n, .pointer (some ⟨bd, 0, none⟩)] w fun e w' => e = .returned (.func (.func 98) #[] #[.pointer (some ⟨bd, 0, none⟩), .pointer (some ⟨w.heap.size, 0, none⟩), .pointer (some ⟨w.heap.size + 1, 0, none⟩)]) ∧ w' = (w.alloc (.cells #[.int .i64 a] 3)).alloc (.cells #[.int .i64 n] 3) := by
  go_enter Try.func97, Try.ntmps97
  go_wp2
  go_ret
  exact ⟨rfl, rfl⟩
theorem mkwr2_calls (w : World) (bd : Nat) (a : Int) (A : Option Addr) (n c : Nat) :
    Calls Try.prog 95 #[.int .i64 a, .slice A n c, .pointer (some ⟨bd, 0, none⟩)] w fun e w' => ∃ ba bx, e = .returned (.func (.func 96) #[] #[.pointer (some ⟨bd, 0, none⟩), .pointer (some ⟨ba, 0, none⟩), .pointer (some ⟨bx, 0, none⟩)]) ∧
      w.heap.size ≤ ba ∧ w.heap.size ≤ bx ∧ w'.cell? ⟨ba, 0, none⟩ = some (.int .i64 a) ∧ w'.cell? ⟨bx, 0, none⟩ = some (.slice A n c) ∧ Below w.heap.size w w' := by
  refine (mkwr_calls w bd a A n c).mono ?_
  rintro e w' ⟨rfl, rfl⟩
  exact ⟨_, _, rfl, Nat.le_refl _, Nat.le_succ _, cell_alloc (blk_cell (heap_alloc_new w _) rfl) _, blk_cell (alloc_two _ _ _) rfl, ((Below.refl _ w).alloc (Nat.le_refl _) _).alloc (by simp) _⟩
theorem mkfl2_calls (w : World) (bd : Nat) (a n : Int) :
    Calls Try.prog 97 #[.int .i64 a, .int .i64 n, .pointer (some ⟨bd, 0, none⟩)] w fun e w' => ∃ ba bx, e = .returned (.func (.func 98) #[] #[.pointer (some ⟨bd, 0, none⟩), .pointer (some ⟨ba, 0, none⟩), .pointer (some ⟨bx, 0, none⟩)]) ∧
      w.heap.size ≤ ba ∧ w.heap.size ≤ bx ∧ w'.cell? ⟨ba, 0, none⟩ = some (.int .i64 a) ∧ w'.cell? ⟨bx, 0, none⟩ = some (.int .i64 n) ∧ Below w.heap.size w w' := by
  refine (mkfl_calls w bd a n).mono ?_
  rintro e w' ⟨rfl, rfl⟩
  exact ⟨_, _, rfl, Nat.le_refl _, Nat.le_succ _, cell_alloc (blk_cell (heap_alloc_new w _) rfl) _, blk_cell (alloc_two _ _ _) rfl, ((Below.refl _ w).alloc (Nat.le_refl _) _).alloc (by simp) _⟩
theorem info_fn : (Try.prog.info? 1).map (fun i => (i.zero, i.size, i.bytes)) = some (some .nilFunc, 1, 8) := by kernel_rfl
/-- What a row of steps becomes behind others. -/
def RowS (w : World) (base : Nat) (v : Value) (xs : List StepV) : Prop := StK.R 1 w base (fun _ => True) v xs
theorem steps_calls (w : World) (base : Nat) (v : Value) (xs ys : List StepV) (B : Option Addr) (c : Nat) (h : RowS w base v xs) (hr : StK.C w B ys.length ys) (hb : base ≤ w.heap.size) (hl : xs.length + ys.length ≤ 100000) :
    Calls Try.prog 100 #[v, .slice B ys.length c] w fun e w' => ∃ v' : Value, e = .returned v' ∧ RowS w' base v' (xs ++ ys) ∧ w.grownBy w' v.ownBlock ∧ (v'.ownBlock = v.ownBlock ∨ ∃ b, v'.ownBlock = some b ∧ w.heap.size ≤ b) := by
  have HR := Aside0.mk h
  have HC := Aside0.mk hr
  clear h hr
  go_enter Try.func100, Try.ntmps100
  go_wp2_with (((with_reducible refine gate_bi (b := .append) (xs := #[.tmp 5, .tmp 6]) rfl ?_); go_must (refine Kd.R_append_row encS (.fe 0) (h1 := encS_one) (w0 := w) base rfl (.tmp 5) (.tmp 6) 82 1 .nilFunc 8 rfl Try.underlying82 info_fn rfl (by decide) v xs ys B ys.length c (fun _ => True) rfl rfl (fun _ _ => trivial) HR.out HC.out (Below.refl _ _) hb (by omega) ?_); intro v1 w1 ho hb1 hg hat; have HO := Aside0.mk ho; have HG := Aside0.mk hg; have HA := Aside0.mk hat; clear ho hb1 hg hat))
  go_ret
  exact ⟨_, rfl, HO.out, HG.out, HA.out⟩
theorem steps_n (w : World) (base : Nat) (v : Value) (xs ys : List StepV) (B : Option Addr) (n c : Nat) (hn : ys.length = n) (h : RowS w base v xs) (hr : StK.C w B ys.length ys) (hb : base ≤ w.heap.size) (hl : xs.length + ys.length ≤ 100000) :
    Calls Try.prog 100 #[v, .slice B n c] w fun e w' => ∃ v' : Value, e = .returned v' ∧ RowS w' base v' (xs ++ ys) ∧ w.grownBy w' v.ownBlock ∧ (v'.ownBlock = v.ownBlock ∨ ∃ b, v'.ownBlock = some b ∧ w.heap.size ≤ b) := by
  subst hn
  exact steps_calls w base v xs ys B c h hr hb hl
theorem row_base {w : World} {base : Nat} {v : Value} {xs : List StepV} (h : RowS w base v xs) {b : Nat} (hb : v.ownBlock = some b) : base ≤ b ∧ b < w.heap.size := by
  obtain ⟨cs, t, fr, hc⟩ := own_blk h hb.symm
  refine ⟨?_, blk_lt hc⟩
  rcases (Kd.own_of_R h).2 with ⟨e, _⟩ | ⟨g, cap, cur, e, hg, _⟩
  · rw [e] at hb
    simp [Value.ownBlock] at hb
  · rw [e] at hb
    simp only [Value.ownBlock, Option.some.injEq] at hb
    rw [← hb]
    exact hg
theorem size_two (w : World) (o1 o2 : Obj) : ((w.alloc o1).alloc o2).heap.size = w.heap.size + 1 + 1 := by simp
theorem lit_steps {w : World} {xs : List StepV} {t : TypeId} (h : xs.length ≤ 9223372036854775807) : StK.C (w.alloc (.cells (xs.map encS).toArray t)) (some ⟨w.heap.size, 0, none⟩) xs.length xs := by
  refine Kd.C_of_reads (d := .fe 0) (h1 := encS_one) ⟨rfl, h, fun _ => ⟨_, rfl, fun j hj => ?_⟩⟩
  rw [add_plain]
  refine blk_cell (heap_alloc_new w _) ?_
  simp [hj]
/-- Blocks of a row of steps, but the row's own. -/
def TS (base : Nat) (sv : Value) (b : Nat) : Prop := base ≤ b ∧ some b ≠ sv.ownBlock
theorem add_steps {w wr W3 w6 : World} {p : Nat} {u v' : Value} {xs ys : List StepV} {ms ns : List StepM}
    (hrow : RowS wr w.heap.size u xs) (hall : IsAll wr (TS w.heap.size u) p xs ms) (hb : Below w.heap.size w wr) (hW : Below wr.heap.size wr W3) (hx : IsAll W3 (TS w.heap.size u) p ys ns)
    (hg : W3.grownBy w6 u.ownBlock) (hat : v'.ownBlock = u.ownBlock ∨ ∃ b, v'.ownBlock = some b ∧ W3.heap.size ≤ b) :
    IsAll w6 (TS w.heap.size v') p (xs ++ ys) (ms ++ ns) ∧ Below w.heap.size w w6 ∧ (∀ b, b < W3.heap.size → TS w.heap.size u b → TS w.heap.size v' b) ∧ Fr (fun b => some b = u.ownBlock) W3 w6 := by
  have hB3 : Below w.heap.size w W3 := bel_step hb hW
  have hT : ∀ b, b < W3.heap.size → TS w.heap.size u b → TS w.heap.size v' b := by
    rintro b hb3 ⟨h1, h2⟩
    refine ⟨h1, ?_⟩
    rcases hat with e | ⟨c, e, hc⟩
    · rw [e]; exact h2
    · rw [e]
      intro e2
      have := Option.some.inj e2
      omega
  have hF : Fr (fun b => some b = u.ownBlock) W3 w6 := (Fr.refl _ _).grown hg (fun k hk => .inl hk.symm)
  refine ⟨?_, hB3.grown hg hB3.size (fun k hk => (row_base hrow hk).1), hT, hF⟩
  have h1 : IsAll W3 (TS w.heap.size u) p xs ms := hall.move (S := fun _ => False) (Fr.of_below hW _) (fun _ _ h => h)
  have h2 : IsAll W3 (fun b => TS w.heap.size u b ∧ TS w.heap.size v' b) p (xs ++ ys) (ms ++ ns) := (IsAll.app hx h1).mono (fun b hb3 ht => ⟨ht, hT b hb3 ht⟩)
  exact (h2.move hF (fun b ht => ht.1.2)).mono (fun b _ ht => ht.2)
theorem five_calls {w wr W0 W1 W2 W3 : World} {p : Nat} {u : Value} {xs : List StepV} {ms : List StepM} {ba1 bn1 ba2 bx2 ba3 bn3 g7 c7 at_ len : Nat} {M : List Int}
    (hrow : RowS wr w.heap.size u xs) (hall : IsAll wr (TS w.heap.size u) p xs ms) (hb : Below w.heap.size w wr) (hTD : TS w.heap.size u w.heap.size) (hbd : wr.cell? ⟨w.heap.size, 0, none⟩ = some (.pointer (some ⟨p, 0, none⟩)))
    (hW0 : Below wr.heap.size wr W0) (hl : xs.length ≤ 90000)
    (hF1 : W0.heap.size ≤ ba1 ∧ W0.heap.size ≤ bn1 ∧ W1.cell? ⟨ba1, 0, none⟩ = some (.int .i64 (at_ : Int)) ∧ W1.cell? ⟨bn1, 0, none⟩ = some (.int .i64 (len : Int))) (hC1 : Below W0.heap.size W0 W1)
    (hF2 : W1.heap.size ≤ ba2 ∧ W1.heap.size ≤ bx2 ∧ W2.cell? ⟨ba2, 0, none⟩ = some (.int .i64 0) ∧ W2.cell? ⟨bx2, 0, none⟩ = some (.slice (some ⟨g7, 0, none⟩) 8 c7)) (hC2 : Below W1.heap.size W1 W2)
    (hF3 : W2.heap.size ≤ ba3 ∧ W2.heap.size ≤ bn3 ∧ W3.cell? ⟨ba3, 0, none⟩ = some (.int .i64 0) ∧ W3.cell? ⟨bn3, 0, none⟩ = some (.int .i64 8)) (hC3 : Below W2.heap.size W2 W3)
    (hg : wr.heap.size ≤ g7) (hr : ReadsInt W0 .u8 (some ⟨g7, 0, none⟩) 8 M) (hM : M.length = 8) :
    Calls Try.prog 100 #[u, .slice (some ⟨W3.heap.size, 0, none⟩) 5 5] (W3.alloc (.cells #[.func (.func 98) #[] #[.pointer (some ⟨w.heap.size, 0, none⟩), .pointer (some ⟨ba1, 0, none⟩), .pointer (some ⟨bn1, 0, none⟩)], .func (.func 24) #[.pointer (some ⟨p, 0, none⟩)] #[], .func (.func 96) #[] #[.pointer (some ⟨w.heap.size, 0, none⟩), .pointer (some ⟨ba2, 0, none⟩), .pointer (some ⟨bx2, 0, none⟩)], .func (.func 98) #[] #[.pointer (some ⟨w.heap.size, 0, none⟩), .pointer (some ⟨ba3, 0, none⟩), .pointer (some ⟨bn3, 0, none⟩)], .func (.func 24) #[.pointer (some ⟨p, 0, none⟩)] #[]] 1)) fun e w' => ∃ v' : Value, e = .returned v' ∧ RowS w' w.heap.size v' (xs ++ [.fl w.heap.size ba1 bn1, .fe p, .wr w.heap.size ba2 bx2, .fl w.heap.size ba3 bn3, .fe p]) ∧
      IsAll w' (fun b => w.heap.size ≤ b) p (xs ++ [.fl w.heap.size ba1 bn1, .fe p, .wr w.heap.size ba2 bx2, .fl w.heap.size ba3 bn3, .fe p]) (ms ++ [.fl at_ len, .fe, .wr 0 M, .fl 0 8, .fe]) ∧ Below w.heap.size w w' ∧ w'.cell? ⟨w.heap.size, 0, none⟩ = some (.pointer (some ⟨p, 0, none⟩)) := by
  have hA : Below W3.heap.size W3 (W3.alloc (.cells #[.func (.func 98) #[] #[.pointer (some ⟨w.heap.size, 0, none⟩), .pointer (some ⟨ba1, 0, none⟩), .pointer (some ⟨bn1, 0, none⟩)], .func (.func 24) #[.pointer (some ⟨p, 0, none⟩)] #[], .func (.func 96) #[] #[.pointer (some ⟨w.heap.size, 0, none⟩), .pointer (some ⟨ba2, 0, none⟩), .pointer (some ⟨bx2, 0, none⟩)], .func (.func 98) #[] #[.pointer (some ⟨w.heap.size, 0, none⟩), .pointer (some ⟨ba3, 0, none⟩), .pointer (some ⟨bn3, 0, none⟩)], .func (.func 24) #[.pointer (some ⟨p, 0, none⟩)] #[]] 1)) := below_alloc (Below.refl _ _) _
  have h3 := bel_step hC3 hA
  have h2 := bel_step hC2 h3
  have h1 := bel_step hC1 h2
  have h0 := bel_step hW0 h1
  have z0 := hW0.size
  have z1 := hC1.size
  have z2 := hC2.size
  have z3 := hC3.size
  have hT : ∀ b, wr.heap.size ≤ b → TS w.heap.size u b := fun b h => ⟨Nat.le_trans hb.size h, fun e => absurd (row_base hrow e.symm).2 (by omega)⟩
  have hbdA := bel_cell h0 hbd
  have hall5 : IsAll (W3.alloc (.cells #[.func (.func 98) #[] #[.pointer (some ⟨w.heap.size, 0, none⟩), .pointer (some ⟨ba1, 0, none⟩), .pointer (some ⟨bn1, 0, none⟩)], .func (.func 24) #[.pointer (some ⟨p, 0, none⟩)] #[], .func (.func 96) #[] #[.pointer (some ⟨w.heap.size, 0, none⟩), .pointer (some ⟨ba2, 0, none⟩), .pointer (some ⟨bx2, 0, none⟩)], .func (.func 98) #[] #[.pointer (some ⟨w.heap.size, 0, none⟩), .pointer (some ⟨ba3, 0, none⟩), .pointer (some ⟨bn3, 0, none⟩)], .func (.func 24) #[.pointer (some ⟨p, 0, none⟩)] #[]] 1)) (TS w.heap.size u) p [.fl w.heap.size ba1 bn1, .fe p, .wr w.heap.size ba2 bx2, .fl w.heap.size ba3 bn3, .fe p] [.fl at_ len, .fe, .wr 0 M, .fl 0 8, .fe] := by
    refine ⟨⟨hTD, hT _ (by omega), hT _ (by omega), hbdA, bel_cell h2 hF1.2.2.1, bel_cell h2 hF1.2.2.2⟩, rfl, ⟨hTD, hT _ (by omega), hT _ (by omega), hbdA, bel_cell h3 hF2.2.2.1, by omega, g7, 0, c7, hT _ hg, ?_, ?_⟩, ⟨hTD, hT _ (by omega), hT _ (by omega), hbdA, bel_cell hA hF3.2.2.1, bel_cell hA hF3.2.2.2⟩, rfl, trivial⟩
    · rw [hM]
      exact bel_cell h3 hF2.2.2.2
    · rw [hM]
      exact hr.below h1
  have hls := lit_steps (w := W3) (xs := [.fl w.heap.size ba1 bn1, .fe p, .wr w.heap.size ba2 bx2, .fl w.heap.size ba3 bn3, .fe p]) (t := 1) (by simp)
  refine (steps_n _ w.heap.size u xs [.fl w.heap.size ba1 bn1, .fe p, .wr w.heap.size ba2 bx2, .fl w.heap.size ba3 bn3, .fe p] (some ⟨W3.heap.size, 0, none⟩) 5 5 rfl (Kd.R_below hrow h0) hls (Nat.le_trans hb.size h0.size) (by simp; omega)).mono ?_
  rintro e w6 ⟨v6, rfl, hr6, hg6, ha6⟩
  obtain ⟨hal6, hb6, _, hf6⟩ := add_steps hrow hall hb h0 hall5 hg6 ha6
  exact ⟨v6, rfl, hr6, hal6.mono (fun b _ ht => ht.1), hb6, hf6.cell hbdA (fun e => hTD.2 e)⟩
end Go.Proofs.Ytbfogcckbhkciaa.Hand
namespace Go.Proofs.Ytbfogcckbhkciaa.Hand
open Go.RowKit Go.Maps Go.Proofs.YtbfogcckbhkciaaW.PrintWords Go.Proofs.YtbfogcckbhkciaaW.PrintLast
set_option linter.unusedVariables false
set_option linter.unusedSimpArgs false
theorem mid_gen (g c n a : Nat) (i j : Int) (hi : i = a) (hj : j = a + 8) (hn : a + 8 ≤ n) (hc : n ≤ c) (W : World) : (Instr.slice 23 (.slice (some ⟨g, 0, none⟩) n c) (some (.int .i64 i)) (some (.int .i64 j)) none).run Try.prog W = .ok (.slice (some ⟨g, a, none⟩) 8 (c - a)) W := by
  subst hi hj
  obtain ⟨q, hq, hz⟩ := info_of
  have hel : Try.prog.elem 23 = 5 := by simp [Program.elem, Try.underlying23]
  have hu : Try.prog.underlying 23 = some (.slice (Try.prog.elem 23)) := by rw [hel]; exact Try.underlying23
  rw [run_slice_lh W 23 _ n c hu .i64 .i64 (a : Int) ((a : Int) + 8) (by omega) (by omega) (by omega), hel]
  have h1 : ¬ c = a := by omega
  have h2 : ((a : Int) + 8).toNat = a + 8 := by omega
  simp [sizeOf, typeInfo, hq, hz, sliced, Result.andThen, h1, h2, Addr.add]
  exact fun h => h.symm
theorem reads_mid {w : World} {g n : Nat} {xs : List Int} (hr : ReadsInt w .u8 (some ⟨g, 0, none⟩) n xs) (a : Nat) (h : a + 8 ≤ n) : ReadsInt w .u8 (some ⟨g, a, none⟩) 8 (cut xs a 8) := by
  have hl := hr.1
  refine ⟨cut_length (by omega), by omega, fun _ => ⟨_, rfl, fun j hj => ?_⟩⟩
  obtain ⟨ad, e, hx⟩ := hr.2.2 (by omega)
  obtain rfl := Option.some.inj e
  have := hx (a + j) (by omega)
  rw [add_plain] at this ⊢
  rw [show (0 : Nat) + (a + j) = a + j from Nat.zero_add _] at this
  rw [this, cut, List.getD_eq_getElem?_getD, List.getD_eq_getElem?_getD, List.getElem?_take_of_lt hj, List.getElem?_drop]
/-- A call of a function that lies in a slot. -/
theorem goesv_ {P : Program} {ops : Array Oper} {Q : Exit → Act → World → Prop} {oi : Oper} {N : Option Tmp} {a : Act} {w : World} {K : Act → World → Prop} {f : FuncId} {fn : Func} {t : Operand} {az : Array Operand} {ts : Array TypeId} {bs cs : Array Value} (hf : P.funcs[f]? = some fn) (hname : (fn.name == "runtime.NumGoroutine") = false) (hb : fn.body.isSome = true) (args : Array Value)
    (hw : Region.wanted oi (yielded ops a.tmps) = true) (hN : oi.dst = N) (hop : oi.op = .call { callee := .value t, args := az, argTypes := ts }) (hv : a.eval t = .func (.func f) bs cs) (hargs : bs ++ az.map a.eval ++ cs = args)
    (h : Calls P f args w fun e w' => ∃ v, e = .returned v ∧ K (a.put N v) w') : if Region.wanted oi (yielded ops a.tmps) = true then Oper.wp P oi a w K Q else K (a.put N undef) w := by
  refine call_ f args hw hN ?_ h
  have he := enters_ hf hname hb args w
  unfold execOp
  simp [hop, resolve, Deferred.ofValue, invoke, hv, hargs, he]
/-- A step of a row, called. -/
theorem take_steps {d : Dev} {ms : List StepM} {k : Nat} {m : StepM} (h : ms[k]? = some m) : d.steps (ms.take (k + 1)) = (d.steps (ms.take k)).step m := by
  rw [List.take_add_one, h]
  exact Dev.steps_snoc _ _ _
end Go.Proofs.Ytbfogcckbhkciaa.Hand
namespace Go.Proofs.Ytbfogcckbhkciaa.Hand
open Go.RowKit Go.Maps Go.Proofs.YtbfogcckbhkciaaW.PrintWords Go.Proofs.YtbfogcckbhkciaaW.PrintLast
set_option linter.unusedVariables false
set_option linter.unusedSimpArgs false
def newK (d : Dev) : Int := if (dmark d).1 = 0 then 0 else 1 - (dmark d).2
def newAt (d : Dev) : Nat := 8 + (newK d).toNat * roomD d
/-- The steps of saving l. -/
def stepsD (d : Dev) (l : List Int) : List StepM :=
  wrsN (newAt d) (padL l) ((padL l).length / 8) ++ [.fl (newAt d) (padL l).length, .fe, .wr 0 (markL ((dmark d).1 + 1) (newK d)), .fl 0 8, .fe]
def FullD (d : Dev) (l : List Int) : Prop := roomD d < l.length ∨ 4294967295 ≤ (dmark d).1
instance (d : Dev) (l : List Int) : Decidable (FullD d l) := by unfold FullD; infer_instance
set_option maxRecDepth 100000 in
theorem begin_full (w : World) (p : Nat) (v : Value) (s f : Nat) (d : Dev) (A : Option Addr) (c : Nat) (l : List Int) (h : HasD w p v s f d) (hl : l.length ≤ 9223372036854775807) (hf : FullD d l) :
    Calls Try.prog 54 #[.pointer (some ⟨p, 0, none⟩), .slice A l.length c] w fun e w' => e = .returned (.tuple #[.slice none 0 0, .int .i64 191]) ∧ Below w.heap.size w w' := by
  have HM := Aside0.mk (fun {w : World} (h : HasD w p v s f d) => dmark_calls w p v s f d h)
  have hmax := h.ok.max
  have HW := Aside0.mk (fun (w : World) (h : HasD w p v s f d) => words_calls w p v s f d h)
  have HR := Aside0.mk (fun (w : World) => room_calls (d.B.length / 8) w (by omega))
  have HH := Aside0.mk h
  have BX0 := Aside0.mk (show (w.alloc (.cells #[.pointer (some ⟨p, 0, none⟩)] 27)).cell? ⟨w.heap.size, 0, none⟩ = some (.pointer (some ⟨p, 0, none⟩)) from blk_cell (heap_alloc_new w _) rfl)
  obtain ⟨m, hm⟩ : ∃ m, m = d.B.length / 8 := ⟨_, rfl⟩
  rw [← hm] at HW HR
  obtain ⟨g, hg⟩ : ∃ g, g = (dmark d).1 := ⟨_, rfl⟩
  obtain ⟨k, hk⟩ : ∃ g, g = (dmark d).2 := ⟨_, rfl⟩
  obtain ⟨n, hn⟩ : ∃ n, n = roomD d := ⟨_, rfl⟩
  rw [show roomN m = n by rw [hm]; exact hn.symm] at HR
  rw [FullD, ← hg, ← hn] at hf
  rw [← hg, ← hk] at HM
  rcases (show n < l.length ∨ (¬ n < l.length ∧ 4294967295 ≤ g) by omega) with h1 | ⟨h1, h2⟩
  all_goals
    clear h hm hg hn hf hk
    go_enter Try.func54, Try.ntmps54
    go_wp2_with (first | (go_at_call 90; ((with_reducible refine (HM.out (HH.out.move (below_alloc (Below.refl _ _) _))).mono ?_); rintro e w1 ⟨rfl, hb⟩; have HB1 := Aside0.mk (bel_step (below_alloc (Below.refl w.heap.size w) _) hb); have HD1 := Aside0.mk (HH.out.move HB1.out); have bx1 := bel_cell hb BX0.out; clear hb)) | (go_at_call 91; ((with_reducible refine (HW.out _ HD1.out).mono ?_); rintro e w2 ⟨rfl, rfl⟩)) | (go_at_call 50; ((with_reducible refine (HR.out _).mono ?_); rintro e w2 ⟨rfl, rfl⟩)))
    go_ret2
    exact ⟨rfl, HB1.out⟩
/-- What Begin leaves where it may. -/
def BegunD (w : World) (p : Nat) (d : Dev) (l : List Int) (e : Ending) (w' : World) : Prop :=
  ∃ (u : Value) (xs : List StepV), e = .returned (.tuple #[u, .int .i64 0]) ∧ RowS w' w.heap.size u xs ∧ IsAll w' (fun b => w.heap.size ≤ b) p xs (stepsD d l) ∧ Below w.heap.size w w'
theorem padL_length (l : List Int) : (padL l).length = 8 * ((l.length + 7) / 8) := by
  rw [padL, List.length_append, List.length_replicate]
  omega
theorem markL_put {g k : Int} (h : MarkOk g k) : putL (markN g k) 8 = markL g k := by
  have hr := markN_range g k
  have hf : fitsB (markN g k) 8 = true := by rw [fits_one _ 8 hr.1 hr.2]; simp [rfitsB, rightB, topN]; omega
  have hn : markN g k = numL (markL g k) := if_pos h
  rw [putL, hf, if_pos rfl]
  refine numL_inj (leB_bysq _ _) (markL_bys h) (by rw [leB_length, markL_length]; rfl) ?_
  rw [numL_leBq, ← hn]
  exact Int.emod_eq_of_lt hr.1 hr.2
theorem mput_calls (w : World) {g k : Int} (h : MarkOk g k) : Calls Try.prog 92 #[.slice none 0 0, .int .i64 8, .int .u64 (markN g k)] w fun e w' => ∃ (b c : Nat) (t : Bool), e = .returned (.tuple #[.slice (some ⟨b, 0, none⟩) 8 c, .bool t]) ∧ ReadsInt w' .u8 (some ⟨b, 0, none⟩) 8 (markL g k) ∧ w.heap.size ≤ b ∧ Below w.heap.size w w' := by
  refine (put_new 8 (markN g k) w).mono ?_
  rintro e w7 ⟨v7, rfl, hr7, hb7⟩
  rw [markL_put h] at hr7
  obtain ⟨g7, c7, e7, _, hg7, _⟩ := own_slice_form hr7 (by rw [markL_length]; decide)
  rw [markL_length] at e7
  subst e7
  obtain ⟨A, c, e, _, hr⟩ := reads_own2 hr7
  simp only [Value.slice.injEq] at e
  obtain ⟨rfl, h8, rfl⟩ := e
  rw [markL_length] at hr
  exact ⟨g7, c7, _, rfl, hr, hg7, hb7⟩
set_option maxRecDepth 100000 in
set_option maxHeartbeats 8000000 in
theorem begin_core (w : World) (p : Nat) (v : Value) (s f : Nat) (d : Dev) (A : Option Addr) (c : Nat) (l X : List Int) (g k kk : Int) (n m q qn at_ : Nat) (h : HasD w p v s f d)
    (HM : Aside0 (∀ {W : World}, HasD W p v s f d → Calls Try.prog 90 #[.pointer (some ⟨p, 0, none⟩)] W fun e w' => e = .returned (.tuple #[.int .i64 g, .int .i64 k]) ∧ Below W.heap.size W w'))
    (HW : Aside0 (∀ W : World, HasD W p v s f d → Calls Try.prog 91 #[.pointer (some ⟨p, 0, none⟩)] W fun e w' => e = .returned (.int .i64 (m : Int)) ∧ W = w'))
    (HR : Aside0 (∀ W : World, Calls Try.prog 50 #[.int .i64 (m : Int)] W fun e w' => e = .returned (.int .i64 (n : Int)) ∧ W = w'))
    (HPC : Aside0 (∀ W : World, ReadsInt W .u8 A l.length l → Calls Try.prog 99 #[.slice A l.length c] W fun e w' => ∃ v : Value, e = .returned v ∧ Kd.R (Kd.int .u8) 5 w' 0 (New W) v X ∧ Below W.heap.size W w'))
    (HLR : Aside0 (ReadsInt w .u8 A l.length l)) (HMK : Aside0 (MarkOk (g + 1) kk)) (HXM : Aside0 (X.length % 8 = 0)) (hxl : X.length ≤ 65544) (hgl : 0 ≤ g ∧ g < 4294967295)
    (hl1 : decide (n < l.length) = false) (hl2 : decide (4294967295 ≤ g) = false) (e1 : IntKind.i64.wrap (kk * n) = (qn : Int)) (e2 : IntKind.i64.wrap (8 + (qn : Int)) = (at_ : Int)) (hat : at_ ≤ 65544)
    (hcs : (decide (0 < g) = false ∧ kk = k) ∨ (decide (0 < g) = true ∧ IntKind.i64.wrap (1 - k) = kk)) :
    Calls Try.prog 54 #[.pointer (some ⟨p, 0, none⟩), .slice A l.length c] w fun e w' => ∃ (u : Value) (xs : List StepV), e = .returned (.tuple #[u, .int .i64 0]) ∧ RowS w' w.heap.size u xs ∧
      IsAll w' (fun b => w.heap.size ≤ b) p xs (wrsN at_ X (X.length / 8) ++ [.fl at_ X.length, .fe, .wr 0 (markL (g + 1) kk), .fl 0 8, .fe]) ∧ Below w.heap.size w w' := by
  have HH := Aside0.mk h
  have BX0 := Aside0.mk (show (w.alloc (.cells #[.pointer (some ⟨p, 0, none⟩)] 27)).cell? ⟨w.heap.size, 0, none⟩ = some (.pointer (some ⟨p, 0, none⟩)) from blk_cell (heap_alloc_new w _) rfl)
  clear h
  rcases hcs with ⟨hz, rfl⟩ | ⟨hz, e0⟩
  · skip
    go_enter Try.func54, Try.ntmps54
    go_wp2_with (first | (go_at_call 90; ((with_reducible refine (HM.out (HH.out.move (below_alloc (Below.refl _ _) _))).mono ?_); rintro e w1 ⟨rfl, hb⟩; have HB1 := Aside0.mk (bel_step (below_alloc (Below.refl w.heap.size w) _) hb); have HD1 := Aside0.mk (HH.out.move HB1.out); have bx1 := bel_cell hb BX0.out; clear hb)) | (go_at_call 91; ((with_reducible refine (HW.out _ HD1.out).mono ?_); rintro e w2 ⟨rfl, rfl⟩)) | (go_at_call 50; ((with_reducible refine (HR.out _).mono ?_); rintro e w2 ⟨rfl, rfl⟩)) | (go_at_call 99; ((with_reducible refine (HPC.out _ (HLR.out.below HB1.out)).mono ?_); rintro e w3 ⟨v3, rfl, hr3, hb3⟩; obtain ⟨A3, c3, rfl, hc3, hR3⟩ := reads_own2 hr3; have HR3 := Aside0.mk hR3; have HO3 := Aside0.mk (fun h0 => own_slice_form hr3 h0); have HB3 := Aside0.mk (bel_step HB1.out hb3); have bx3 := bel_cell hb3 bx1; clear hr3 hb3 hR3)))
    have BX3 := Aside0.mk bx3
    have HC3 := Aside0.mk hc3
    clear bx3 bx1 hc3
    have HTA : Aside0 (0 < X.length → ∀ g o, A3 = some ⟨g, o, none⟩ → TS w.heap.size (.slice none 0 0) g) := ⟨fun h0 g4 o4 e4 => by
      obtain ⟨g3, cap3, hsl, _, hg3, _⟩ := HO3.out h0
      simp only [Value.slice.injEq] at hsl
      rw [e4] at hsl
      have e5 := Option.some.inj hsl.1
      simp only [Addr.mk.injEq] at e5
      exact ⟨by rw [e5.1]; exact Nat.le_trans HB1.out.size hg3, by simp [Value.ownBlock]⟩⟩
    go_loopw [13, 14] (fun sv i wr => ∃ (K j : Nat) (xs : List StepV), K = 8 * j ∧ j ≤ X.length / 8 ∧ xs.length = j ∧ i = .int .i64 (K : Int) ∧ Aside0 (RowS wr w.heap.size sv xs) ∧ Aside0 (IsAll wr (TS w.heap.size sv) p xs (wrsN at_ X j)) ∧ Aside0 (Below w.heap.size w wr) ∧ Aside0 (ReadsInt wr .u8 A3 X.length X) ∧ Aside0 (0 < X.length → ∀ g o, A3 = some ⟨g, o, none⟩ → TS w.heap.size sv g) ∧ Aside0 (wr.cell? ⟨w.heap.size, 0, none⟩ = some (.pointer (some ⟨p, 0, none⟩))) ∧ Aside0 (TS w.heap.size sv w.heap.size)) (fun _ i _ => (X.length - intOf i).toNat)
    case atStart => exact ⟨0, 0, [], rfl, Nat.zero_le _, rfl, rfl, ⟨Kd.R_nil _ _ _ _ _⟩, ⟨trivial⟩, HB3, HR3, HTA, BX3, ⟨Nat.le_refl _, by simp [Value.ownBlock]⟩⟩
    case round =>
      obtain ⟨K, j, xs, hK, hj, hxs, rfl, HRO, HAL, HB, HXR, HXG, HBD, HTD⟩ := hrel
      by_cases hlt : K < X.length
      · have hK8 : K + 8 ≤ X.length := by have := HXM.out; omega
        obtain ⟨g3, cap3, hsl, hg30, hg3n, hcap3, _⟩ := HO3.out (by omega)
        simp only [Value.slice.injEq] at hsl
        obtain ⟨rfl, _, rfl⟩ := hsl
        have em := mid_gen g3 c3 X.length K (K : Int) ((K : Int) + 8) rfl rfl hK8 hcap3
        have HBW2 : Below wr.heap.size wr ((wr.alloc (.cells #[.int .i64 ((at_ : Int) + K)] 3)).alloc (.cells #[.slice (some ⟨g3, K, none⟩) 8 (c3 - K)] 23)) := ((Below.refl _ wr).alloc (Nat.le_refl _) _).alloc (by simp) _
        have HBW3 : Below wr.heap.size wr (((wr.alloc (.cells #[.int .i64 ((at_ : Int) + K)] 3)).alloc (.cells #[.slice (some ⟨g3, K, none⟩) 8 (c3 - K)] 23)).alloc (.cells #[.func (.func 96) #[] #[.pointer (some ⟨w.heap.size, 0, none⟩), .pointer (some ⟨wr.heap.size, 0, none⟩), .pointer (some ⟨wr.heap.size + 1, 0, none⟩)]] 1)) := HBW2.alloc HBW2.size _
        have hown : ∀ b, some b = u13.ownBlock → b < wr.heap.size := fun b hb => (row_base HRO.out hb.symm).2
        have hst : IsSt (((wr.alloc (.cells #[.int .i64 ((at_ : Int) + K)] 3)).alloc (.cells #[.slice (some ⟨g3, K, none⟩) 8 (c3 - K)] 23)).alloc (.cells #[.func (.func 96) #[] #[.pointer (some ⟨w.heap.size, 0, none⟩), .pointer (some ⟨wr.heap.size, 0, none⟩), .pointer (some ⟨wr.heap.size + 1, 0, none⟩)]] 1)) (TS w.heap.size u13) p (.wr w.heap.size wr.heap.size (wr.heap.size + 1)) (.wr (at_ + K) (cut X K 8)) := by
          have hcl : (cut X K 8).length = 8 := cut_length hK8
          refine ⟨HTD.out, ⟨HB.out.size, fun e => absurd (hown _ e) (Nat.lt_irrefl _)⟩, ⟨Nat.le_succ_of_le HB.out.size, fun e => absurd (hown _ e) (by omega)⟩, bel_cell HBW3 HBD.out, ?_, by omega, g3, K, c3 - K, HXG.out (by omega) _ _ rfl, ?_, ?_⟩
          · refine cell_alloc ?_ _
            rw [Int.natCast_add]
            exact cell_alloc (blk_cell (heap_alloc_new wr _) rfl) _
          · refine cell_alloc ?_ _
            rw [hcl]
            exact blk_cell (alloc_two _ _ _) rfl
          · rw [hcl]
            exact (reads_mid HXR.out K hK8).below HBW3
        have HST := Aside0.mk hst
        have HSC := Aside0.mk (steps_n (((wr.alloc (.cells #[.int .i64 ((at_ : Int) + K)] 3)).alloc (.cells #[.slice (some ⟨g3, K, none⟩) 8 (c3 - K)] 23)).alloc (.cells #[.func (.func 96) #[] #[.pointer (some ⟨w.heap.size, 0, none⟩), .pointer (some ⟨wr.heap.size, 0, none⟩), .pointer (some ⟨wr.heap.size + 1, 0, none⟩)]] 1)) w.heap.size u13 xs [.wr w.heap.size wr.heap.size (wr.heap.size + 1)] (some ⟨wr.heap.size + 1 + 1, 0, none⟩) 1 1 rfl (Kd.R_below HRO.out HBW3) (by have hls := lit_steps (w := ((wr.alloc (.cells #[.int .i64 ((at_ : Int) + K)] 3)).alloc (.cells #[.slice (some ⟨g3, K, none⟩) 8 (c3 - K)] 23))) (xs := [.wr w.heap.size wr.heap.size (wr.heap.size + 1)]) (t := 1) (by simp); rw [size_two] at hls; exact hls) (Nat.le_trans HB.out.size HBW3.size) (by simp; omega))
        have HW3 := Aside0.mk HBW3
        have HMW := Aside0.mk (mkwr_calls wr w.heap.size ((at_ : Int) + K) (some ⟨g3, K, none⟩) 8 (c3 - K))
        have HKJ := Aside0.mk hK
        have bdc := HBD.out
        clear hst HBW2 HBW3 hown hK8 hg3n hcap3 hg30 hK
        go_wp2_with (first | (go_at_call 95; ((with_reducible refine HMW.out.mono ?_); rintro e w5 ⟨rfl, rfl⟩)) | (go_at_call 100; go_must ((with_reducible refine HSC.out.mono ?_); rintro e w6 ⟨v6, rfl, hr6, hg6, ha6⟩; obtain ⟨hal6, hb6, ht6, hf6⟩ := add_steps HRO.out HAL.out HB.out HW3.out (ys := [_]) (ns := [_]) ⟨HST.out, trivial⟩ hg6 ha6; have HR6 := Aside0.mk hr6; have HAL6 := Aside0.mk hal6; have HB6 := Aside0.mk hb6; have HT6 := Aside0.mk ht6; have HF6 := Aside0.mk hf6; clear hr6 hg6 ha6 hal6 hb6 ht6 hf6)))
        refine ⟨⟨K + 8, j + 1, _, by have := HKJ.out; omega, by have := HKJ.out; have := HXM.out; omega, by rw [List.length_append, hxs]; rfl, by go_num, HR6, ⟨?_⟩, HB6, ⟨?_⟩, ⟨?_⟩, ⟨?_⟩, ⟨?_⟩⟩, by simp [intOf]; omega⟩
        · rw [wrsN_succ, ← HKJ.out]
          exact HAL6.out
        · exact reads_frA (HXR.out.below HW3.out) HF6.out (fun _ ad e => by obtain rfl := Option.some.inj e; exact (HXG.out (by omega) _ _ rfl).2)
        · intro _ g4 o4 e4
          have e5 := Option.some.inj e4
          simp only [Addr.mk.injEq] at e5
          obtain ⟨rfl, _⟩ := e5
          refine HT6.out _ (Nat.lt_of_lt_of_le ?_ HW3.out.size) (HXG.out (by omega) _ _ rfl)
          obtain ⟨ad, e, hx⟩ := HXR.out.2.2 (by omega)
          obtain rfl := Option.some.inj e
          exact World.block_lt_of_cell? _ _ (hx 0 (by omega))
        · exact HF6.out.cell (bel_cell HW3.out HBD.out) (fun e => HTD.out.2 e)
        · exact HT6.out _ (Nat.lt_of_lt_of_le (World.block_lt_of_cell? _ _ HBD.out) HW3.out.size) HTD.out
      · have hKX : K = X.length := by have := HXM.out; omega
        obtain rfl : j = X.length / 8 := by omega
        have HKX := Aside0.mk hKX
        have hKl : decide ((K : Int) < (X.length : Int)) = false := by simp; omega
        have hKn : decide (K < X.length) = false := by simp; omega
        have HXS := Aside0.mk (show xs.length ≤ 90000 by omega)
        clear hKX hlt hK hxs hj
        have bdc := HBD.out
        have HPU := Aside0.mk (fun (W : World) => mput_calls W HMK.out)
        have HMM := Aside0.mk (fun (W : World) => mark_calls (g + 1) kk W)
        go_wp2_with (first | (go_at_call 52; ((with_reducible refine (HMM.out _).mono ?_); rintro e w5 ⟨rfl, hb⟩; have HB5 := Aside0.mk hb; clear hb)) | (go_at_call 92; ((with_reducible refine (HPU.out w5).mono ?_); rintro e w7 ⟨g7, c7, b7, rfl, hr7, hg7, hb7⟩; have HR7 := Aside0.mk hr7; have HG7 := Aside0.mk hg7; have HB7 := Aside0.mk (bel_step HB5.out hb7); have bd7 := bel_cell HB7.out HBD.out; clear hr7 hb7 hg7)))
        have HBD' := Aside0.mk (show Below wr.heap.size wr w7.drew from HB7.out.drew)
        have HBX := Aside0.mk (fun W (h : Below wr.heap.size wr W) => bel_cell h HBD.out)
        have HRD := Aside0.mk (show ReadsInt w7.drew .u8 (some ⟨g7, 0, none⟩) 8 (markL (g + 1) kk) from HR7.out)
        have HG7' := Aside0.mk (Nat.le_trans HB5.out.size HG7.out)
        have HM8 := Aside0.mk (markL_length (g + 1) kk)
        have HKX2 := HKX
        refine start_ (n := 19) (S := fun w' => w'.cell? ⟨w.heap.size, 0, none⟩ = some (.pointer (some ⟨p, 0, none⟩))) (ds := []) #[false, false, false, false, false, false, false, false, false, false, false, false, false, false, false, false, false, false, false] (by kernel_rfl) rfl rfl ((HBX.out _ HBD'.out)) (fun hHeld => ?_)
        refine pure_ (i := 0) (N := some 72) (v := ?_) (a' := ?_) #[true, false, false, false, false, false, false, false, false, false, false, false, false, false, false, false, false, false, false] rfl rfl (by kernel_rfl) (fun _ _ _ h => h) (Or.inl ⟨by rfl, ?_⟩) ?_ ?_
        rotate_left
        · intro w'
          go_simp
          with_reducible rfl
        rotate_left
        · simp only [Act.put, List.setIfInBounds_toArray, List.set_cons_zero, List.set_cons_succ, i64_w, i32_w]
          rfl
        refine pure_ (i := 1) (N := some 73) (v := ?_) (a' := ?_) #[true, true, false, false, false, false, false, false, false, false, false, false, false, false, false, false, false, false, false] rfl rfl (by kernel_rfl) (fun _ _ _ h => h) (Or.inl ⟨by rfl, ?_⟩) ?_ ?_
        rotate_left
        · intro w'
          go_simp
          with_reducible rfl
        rotate_left
        · simp only [Act.put, List.setIfInBounds_toArray, List.set_cons_zero, List.set_cons_succ, i64_w, i32_w]
          rfl
        refine pure_ (i := 2) (N := some 74) (v := ?_) (a' := ?_) #[true, true, true, false, false, false, false, false, false, false, false, false, false, false, false, false, false, false, false] rfl rfl (by kernel_rfl) (fun _ _ _ h => h) (Or.inl ⟨by rfl, ?_⟩) ?_ ?_
        rotate_left
        · intro w'
          go_simp
          with_reducible rfl
        rotate_left
        · simp only [Act.put, List.setIfInBounds_toArray, List.set_cons_zero, List.set_cons_succ, i64_w, i32_w]
          rfl
        refine pure_ (i := 3) (N := some 75) (v := ?_) (a' := ?_) #[true, true, true, true, false, false, false, false, false, false, false, false, false, false, false, false, false, false, false] rfl rfl (by kernel_rfl) (fun _ _ _ h => h) (Or.inl ⟨by rfl, ?_⟩) ?_ ?_
        rotate_left
        · intro w'
          go_simp
          with_reducible rfl
        rotate_left
        · simp only [Act.put, List.setIfInBounds_toArray, List.set_cons_zero, List.set_cons_succ, i64_w, i32_w]
          rfl
        refine pure_ (i := 4) (N := some 76) (v := ?_) (a' := ?_) #[true, true, true, true, true, false, false, false, false, false, false, false, false, false, false, false, false, false, false] rfl rfl (by kernel_rfl) (fun _ _ _ h => h) (Or.inl ⟨by rfl, ?_⟩) ?_ ?_
        rotate_left
        · intro w'
          go_simp
          with_reducible rfl
        rotate_left
        · simp only [Act.put, List.setIfInBounds_toArray, List.set_cons_zero, List.set_cons_succ, i64_w, i32_w]
          rfl
        refine pure_ (i := 8) (N := some 80) (v := ?_) (a' := ?_) #[true, true, true, true, true, false, false, false, true, false, false, false, false, false, false, false, false, false, false] rfl rfl (by kernel_rfl) (fun _ _ _ h => h) (Or.inl ⟨by rfl, ?_⟩) ?_ ?_
        rotate_left
        · intro w'
          go_simp
          with_reducible rfl
        rotate_left
        · simp only [Act.put, List.setIfInBounds_toArray, List.set_cons_zero, List.set_cons_succ, i64_w, i32_w]
          rfl
        refine pure_ (i := 9) (N := some 81) (v := ?_) (a' := ?_) #[true, true, true, true, true, false, false, false, true, true, false, false, false, false, false, false, false, false, false] rfl rfl (by kernel_rfl) (fun _ _ _ h => h) (Or.inl ⟨by rfl, ?_⟩) ?_ ?_
        rotate_left
        · intro w'
          go_simp
          with_reducible rfl
        rotate_left
        · simp only [Act.put, List.setIfInBounds_toArray, List.set_cons_zero, List.set_cons_succ, i64_w, i32_w]
          rfl
        refine pure_ (i := 11) (N := some 83) (v := ?_) (a' := ?_) #[true, true, true, true, true, false, false, false, true, true, false, true, false, false, false, false, false, false, false] rfl rfl (by kernel_rfl) (fun _ _ _ h => h) (Or.inl ⟨by rfl, ?_⟩) ?_ ?_
        rotate_left
        · intro w'
          go_simp
          with_reducible rfl
        rotate_left
        · simp only [Act.put, List.setIfInBounds_toArray, List.set_cons_zero, List.set_cons_succ, i64_w, i32_w]
          rfl
        refine take_ (i := 6) (N := some 78) (v := ?_) (a' := ?_) #[true, true, true, true, true, false, true, false, true, true, false, true, false, false, false, false, false, false, false] rfl rfl (by kernel_rfl) (fun _ _ _ h => h) (Or.inl ⟨by rfl, ?_⟩) hHeld ?_ ?_
        rotate_left
        · intro w' s0
          go_simp
          with_reducible rfl
        rotate_left
        · simp only [Act.put, List.setIfInBounds_toArray, List.set_cons_zero, List.set_cons_succ, i64_w, i32_w]
          rfl
        refine pure_ (i := 7) (N := some 79) (v := ?_) (a' := ?_) #[true, true, true, true, true, false, true, true, true, true, false, true, false, false, false, false, false, false, false] rfl rfl (by kernel_rfl) (fun _ _ _ h => h) (Or.inl ⟨by rfl, ?_⟩) ?_ ?_
        rotate_left
        · intro w'
          go_simp
          with_reducible rfl
        rotate_left
        · simp only [Act.put, List.setIfInBounds_toArray, List.set_cons_zero, List.set_cons_succ, i64_w, i32_w]
          rfl
        refine take_ (i := 13) (N := some 85) (v := ?_) (a' := ?_) #[true, true, true, true, true, false, true, true, true, true, false, true, false, true, false, false, false, false, false] rfl rfl (by kernel_rfl) (fun _ _ _ h => h) (Or.inl ⟨by rfl, ?_⟩) hHeld ?_ ?_
        rotate_left
        · intro w' s0
          go_simp
          with_reducible rfl
        rotate_left
        · simp only [Act.put, List.setIfInBounds_toArray, List.set_cons_zero, List.set_cons_succ, i64_w, i32_w]
          rfl
        refine pure_ (i := 14) (N := some 86) (v := ?_) (a' := ?_) #[true, true, true, true, true, false, true, true, true, true, false, true, false, true, true, false, false, false, false] rfl rfl (by kernel_rfl) (fun _ _ _ h => h) (Or.inl ⟨by rfl, ?_⟩) ?_ ?_
        rotate_left
        · intro w'
          go_simp
          with_reducible rfl
        rotate_left
        · simp only [Act.put, List.setIfInBounds_toArray, List.set_cons_zero, List.set_cons_succ, i64_w, i32_w]
          rfl
        refine one_ (i := 5) (N := some 77) #[true, true, true, true, true, true, true, true, true, true, false, true, false, true, true, false, false, false, false] rfl rfl (by kernel_rfl) (by decide) (fun K hK => ?_)
        refine goesv_ (bs := #[]) (cs := #[.pointer (some ⟨w.heap.size, 0, none⟩)]) Try.func97 (by kernel_rfl) rfl #[.int .i64 (at_ : Int), .int .i64 (X.length : Int), .pointer (some ⟨w.heap.size, 0, none⟩)] (by rfl) rfl rfl rfl (by simp only [List.map_toArray, List.map_cons, List.map_nil]; rfl) ?_
        with_reducible refine (mkfl2_calls w7.drew w.heap.size at_ X.length).mono ?_
        rintro e W1 ⟨ba1, bn1, rfl, ha1, hn1, hca1, hcn1, hb⟩
        refine ⟨_, rfl, ?_⟩
        have HF1 := Aside0.mk (And.intro ha1 (And.intro hn1 (And.intro hca1 hcn1)))
        have HB8 := Aside0.mk (bel_step HBD'.out hb)
        have HC1 := Aside0.mk hb
        clear ha1 hn1 hca1 hcn1 hb
        refine hK.out _ _ ((HBX.out _ HB8.out)) (fun hHeld => ?_)
        clear hK K
        refine norm_ (a' := ?_) ?_ ?_
        rotate_left
        · show Act.put _ (some 77) _ = _
          simp only [Act.put, List.setIfInBounds_toArray, List.set_cons_zero, List.set_cons_succ, i64_w, i32_w]
          rfl
        refine one_ (i := 10) (N := some 82) #[true, true, true, true, true, true, true, true, true, true, true, true, false, true, true, false, false, false, false] rfl rfl (by kernel_rfl) (by decide) (fun K hK => ?_)
        refine goesv_ (bs := #[]) (cs := #[.pointer (some ⟨w.heap.size, 0, none⟩)]) Try.func95 (by kernel_rfl) rfl #[.int .i64 0, .slice (some ⟨g7, 0, none⟩) 8 c7, .pointer (some ⟨w.heap.size, 0, none⟩)] (by rfl) rfl rfl rfl (by simp only [List.map_toArray, List.map_cons, List.map_nil]; rfl) ?_
        with_reducible refine (mkwr2_calls W1 w.heap.size 0 (some ⟨g7, 0, none⟩) 8 c7).mono ?_
        rintro e W2 ⟨ba2, bx2, rfl, ha2, hn2, hca2, hcn2, hb⟩
        refine ⟨_, rfl, ?_⟩
        have HF2 := Aside0.mk (And.intro ha2 (And.intro hn2 (And.intro hca2 hcn2)))
        have HB9 := Aside0.mk (bel_step HB8.out hb)
        have HC2 := Aside0.mk hb
        clear ha2 hn2 hca2 hcn2 hb
        refine hK.out _ _ ((HBX.out _ HB9.out)) (fun hHeld => ?_)
        clear hK K
        refine norm_ (a' := ?_) ?_ ?_
        rotate_left
        · show Act.put _ (some 82) _ = _
          simp only [Act.put, List.setIfInBounds_toArray, List.set_cons_zero, List.set_cons_succ, i64_w, i32_w]
          rfl
        refine one_ (i := 12) (N := some 84) #[true, true, true, true, true, true, true, true, true, true, true, true, true, true, true, false, false, false, false] rfl rfl (by kernel_rfl) (by decide) (fun K hK => ?_)
        refine goesv_ (bs := #[]) (cs := #[.pointer (some ⟨w.heap.size, 0, none⟩)]) Try.func97 (by kernel_rfl) rfl #[.int .i64 0, .int .i64 8, .pointer (some ⟨w.heap.size, 0, none⟩)] (by rfl) rfl rfl rfl (by simp only [List.map_toArray, List.map_cons, List.map_nil]; rfl) ?_
        with_reducible refine (mkfl2_calls W2 w.heap.size 0 8).mono ?_
        rintro e W3 ⟨ba3, bn3, rfl, ha3, hn3, hca3, hcn3, hb⟩
        refine ⟨_, rfl, ?_⟩
        have HF3 := Aside0.mk (And.intro ha3 (And.intro hn3 (And.intro hca3 hcn3)))
        have HB10 := Aside0.mk (bel_step HB9.out hb)
        have HC3 := Aside0.mk hb
        clear ha3 hn3 hca3 hcn3 hb
        refine hK.out _ _ ((HBX.out _ HB10.out)) (fun hHeld => ?_)
        clear hK K
        refine norm_ (a' := ?_) ?_ ?_
        rotate_left
        · show Act.put _ (some 84) _ = _
          simp only [Act.put, List.setIfInBounds_toArray, List.set_cons_zero, List.set_cons_succ, i64_w, i32_w]
          rfl
        refine one_ (i := 15) (N := some 87) #[true, true, true, true, true, true, true, true, true, true, true, true, true, true, true, true, false, false, false] rfl rfl (by kernel_rfl) (by decide) (fun K hK => ?_)
        refine value_ (w1 := ?_) (v := ?_) (by rfl) rfl ?_ ?_
        rotate_left 2
        · go_simp
          constructor
          · rfl
          · rfl
        refine hK.out _ _ ((HBX.out _ (below_alloc HB10.out _))) (fun hHeld => ?_)
        clear hK K
        refine norm_ (a' := ?_) ?_ ?_
        rotate_left
        · show Act.put _ (some 87) _ = _
          simp only [Act.put, List.setIfInBounds_toArray, List.set_cons_zero, List.set_cons_succ, i64_w, i32_w]
          rfl
        refine one_ (i := 16) (N := some 88) #[true, true, true, true, true, true, true, true, true, true, true, true, true, true, true, true, true, false, false] rfl rfl (by kernel_rfl) (by decide) (fun K hK => ?_)
        refine goes_ Try.func100 (by kernel_rfl) rfl #[u13, .slice (some ⟨W3.heap.size, 0, none⟩) 5 5] (by rfl) rfl rfl (by simp only [List.map_toArray, List.map_cons, List.map_nil]; rfl) ?_
        with_reducible refine (five_calls (g7 := g7) (c7 := c7) (M := (markL (g + 1) kk)) HRO.out HAL.out HB.out HTD.out HBD.out HBD'.out (by have := HXS.out; omega) HF1.out HC1.out HF2.out HC2.out HF3.out HC3.out HG7'.out HRD.out HM8.out).mono ?_
        rintro e wE ⟨vE, rfl, hrE, haE, hbE, hcE⟩
        refine ⟨_, rfl, ?_⟩
        have HCE := Aside0.mk hcE
        have HRE := Aside0.mk hrE
        have HAE := Aside0.mk haE
        have HBE := Aside0.mk hbE
        clear hrE haE hbE hcE
        refine hK.out _ _ (HCE.out) (fun hHeld => ?_)
        clear hK K
        refine norm_ (a' := ?_) ?_ ?_
        rotate_left
        · show Act.put _ (some 88) _ = _
          simp only [Act.put, List.setIfInBounds_toArray, List.set_cons_zero, List.set_cons_succ, i64_w, i32_w]
          rfl
        refine pure_ (i := 17) (N := some 4) (v := ?_) (a' := ?_) #[true, true, true, true, true, true, true, true, true, true, true, true, true, true, true, true, true, true, false] rfl rfl (by kernel_rfl) (fun _ _ _ h => h) (Or.inl ⟨by rfl, ?_⟩) ?_ ?_
        rotate_left
        · intro w'
          go_simp
          with_reducible rfl
        rotate_left
        · simp only [Act.put, List.setIfInBounds_toArray, List.set_cons_zero, List.set_cons_succ, i64_w, i32_w]
          rfl
        refine pure_ (i := 18) (N := some 5) (v := ?_) (a' := ?_) #[true, true, true, true, true, true, true, true, true, true, true, true, true, true, true, true, true, true, true] rfl rfl (by kernel_rfl) (fun _ _ _ h => h) (Or.inl ⟨by rfl, ?_⟩) ?_ ?_
        rotate_left
        · intro w'
          go_simp
          with_reducible rfl
        rotate_left
        · simp only [Act.put, List.setIfInBounds_toArray, List.set_cons_zero, List.set_cons_succ, i64_w, i32_w]
          rfl
        refine done_ (by kernel_rfl) ?_

        all_goals
          go_wp2
          go_ret2
          exact ⟨_, _, rfl, HRE.out, HAE.out, HBE.out⟩
  · skip
    go_enter Try.func54, Try.ntmps54
    go_wp2_with (first | (go_at_call 90; ((with_reducible refine (HM.out (HH.out.move (below_alloc (Below.refl _ _) _))).mono ?_); rintro e w1 ⟨rfl, hb⟩; have HB1 := Aside0.mk (bel_step (below_alloc (Below.refl w.heap.size w) _) hb); have HD1 := Aside0.mk (HH.out.move HB1.out); have bx1 := bel_cell hb BX0.out; clear hb)) | (go_at_call 91; ((with_reducible refine (HW.out _ HD1.out).mono ?_); rintro e w2 ⟨rfl, rfl⟩)) | (go_at_call 50; ((with_reducible refine (HR.out _).mono ?_); rintro e w2 ⟨rfl, rfl⟩)) | (go_at_call 99; ((with_reducible refine (HPC.out _ (HLR.out.below HB1.out)).mono ?_); rintro e w3 ⟨v3, rfl, hr3, hb3⟩; obtain ⟨A3, c3, rfl, hc3, hR3⟩ := reads_own2 hr3; have HR3 := Aside0.mk hR3; have HO3 := Aside0.mk (fun h0 => own_slice_form hr3 h0); have HB3 := Aside0.mk (bel_step HB1.out hb3); have bx3 := bel_cell hb3 bx1; clear hr3 hb3 hR3)))
    have BX3 := Aside0.mk bx3
    have HC3 := Aside0.mk hc3
    clear bx3 bx1 hc3
    have HTA : Aside0 (0 < X.length → ∀ g o, A3 = some ⟨g, o, none⟩ → TS w.heap.size (.slice none 0 0) g) := ⟨fun h0 g4 o4 e4 => by
      obtain ⟨g3, cap3, hsl, _, hg3, _⟩ := HO3.out h0
      simp only [Value.slice.injEq] at hsl
      rw [e4] at hsl
      have e5 := Option.some.inj hsl.1
      simp only [Addr.mk.injEq] at e5
      exact ⟨by rw [e5.1]; exact Nat.le_trans HB1.out.size hg3, by simp [Value.ownBlock]⟩⟩
    go_loopw [13, 14] (fun sv i wr => ∃ (K j : Nat) (xs : List StepV), K = 8 * j ∧ j ≤ X.length / 8 ∧ xs.length = j ∧ i = .int .i64 (K : Int) ∧ Aside0 (RowS wr w.heap.size sv xs) ∧ Aside0 (IsAll wr (TS w.heap.size sv) p xs (wrsN at_ X j)) ∧ Aside0 (Below w.heap.size w wr) ∧ Aside0 (ReadsInt wr .u8 A3 X.length X) ∧ Aside0 (0 < X.length → ∀ g o, A3 = some ⟨g, o, none⟩ → TS w.heap.size sv g) ∧ Aside0 (wr.cell? ⟨w.heap.size, 0, none⟩ = some (.pointer (some ⟨p, 0, none⟩))) ∧ Aside0 (TS w.heap.size sv w.heap.size)) (fun _ i _ => (X.length - intOf i).toNat)
    case atStart => exact ⟨0, 0, [], rfl, Nat.zero_le _, rfl, rfl, ⟨Kd.R_nil _ _ _ _ _⟩, ⟨trivial⟩, HB3, HR3, HTA, BX3, ⟨Nat.le_refl _, by simp [Value.ownBlock]⟩⟩
    case round =>
      obtain ⟨K, j, xs, hK, hj, hxs, rfl, HRO, HAL, HB, HXR, HXG, HBD, HTD⟩ := hrel
      by_cases hlt : K < X.length
      · have hK8 : K + 8 ≤ X.length := by have := HXM.out; omega
        obtain ⟨g3, cap3, hsl, hg30, hg3n, hcap3, _⟩ := HO3.out (by omega)
        simp only [Value.slice.injEq] at hsl
        obtain ⟨rfl, _, rfl⟩ := hsl
        have em := mid_gen g3 c3 X.length K (K : Int) ((K : Int) + 8) rfl rfl hK8 hcap3
        have HBW2 : Below wr.heap.size wr ((wr.alloc (.cells #[.int .i64 ((at_ : Int) + K)] 3)).alloc (.cells #[.slice (some ⟨g3, K, none⟩) 8 (c3 - K)] 23)) := ((Below.refl _ wr).alloc (Nat.le_refl _) _).alloc (by simp) _
        have HBW3 : Below wr.heap.size wr (((wr.alloc (.cells #[.int .i64 ((at_ : Int) + K)] 3)).alloc (.cells #[.slice (some ⟨g3, K, none⟩) 8 (c3 - K)] 23)).alloc (.cells #[.func (.func 96) #[] #[.pointer (some ⟨w.heap.size, 0, none⟩), .pointer (some ⟨wr.heap.size, 0, none⟩), .pointer (some ⟨wr.heap.size + 1, 0, none⟩)]] 1)) := HBW2.alloc HBW2.size _
        have hown : ∀ b, some b = u13.ownBlock → b < wr.heap.size := fun b hb => (row_base HRO.out hb.symm).2
        have hst : IsSt (((wr.alloc (.cells #[.int .i64 ((at_ : Int) + K)] 3)).alloc (.cells #[.slice (some ⟨g3, K, none⟩) 8 (c3 - K)] 23)).alloc (.cells #[.func (.func 96) #[] #[.pointer (some ⟨w.heap.size, 0, none⟩), .pointer (some ⟨wr.heap.size, 0, none⟩), .pointer (some ⟨wr.heap.size + 1, 0, none⟩)]] 1)) (TS w.heap.size u13) p (.wr w.heap.size wr.heap.size (wr.heap.size + 1)) (.wr (at_ + K) (cut X K 8)) := by
          have hcl : (cut X K 8).length = 8 := cut_length hK8
          refine ⟨HTD.out, ⟨HB.out.size, fun e => absurd (hown _ e) (Nat.lt_irrefl _)⟩, ⟨Nat.le_succ_of_le HB.out.size, fun e => absurd (hown _ e) (by omega)⟩, bel_cell HBW3 HBD.out, ?_, by omega, g3, K, c3 - K, HXG.out (by omega) _ _ rfl, ?_, ?_⟩
          · refine cell_alloc ?_ _
            rw [Int.natCast_add]
            exact cell_alloc (blk_cell (heap_alloc_new wr _) rfl) _
          · refine cell_alloc ?_ _
            rw [hcl]
            exact blk_cell (alloc_two _ _ _) rfl
          · rw [hcl]
            exact (reads_mid HXR.out K hK8).below HBW3
        have HST := Aside0.mk hst
        have HSC := Aside0.mk (steps_n (((wr.alloc (.cells #[.int .i64 ((at_ : Int) + K)] 3)).alloc (.cells #[.slice (some ⟨g3, K, none⟩) 8 (c3 - K)] 23)).alloc (.cells #[.func (.func 96) #[] #[.pointer (some ⟨w.heap.size, 0, none⟩), .pointer (some ⟨wr.heap.size, 0, none⟩), .pointer (some ⟨wr.heap.size + 1, 0, none⟩)]] 1)) w.heap.size u13 xs [.wr w.heap.size wr.heap.size (wr.heap.size + 1)] (some ⟨wr.heap.size + 1 + 1, 0, none⟩) 1 1 rfl (Kd.R_below HRO.out HBW3) (by have hls := lit_steps (w := ((wr.alloc (.cells #[.int .i64 ((at_ : Int) + K)] 3)).alloc (.cells #[.slice (some ⟨g3, K, none⟩) 8 (c3 - K)] 23))) (xs := [.wr w.heap.size wr.heap.size (wr.heap.size + 1)]) (t := 1) (by simp); rw [size_two] at hls; exact hls) (Nat.le_trans HB.out.size HBW3.size) (by simp; omega))
        have HW3 := Aside0.mk HBW3
        have HMW := Aside0.mk (mkwr_calls wr w.heap.size ((at_ : Int) + K) (some ⟨g3, K, none⟩) 8 (c3 - K))
        have HKJ := Aside0.mk hK
        have bdc := HBD.out
        clear hst HBW2 HBW3 hown hK8 hg3n hcap3 hg30 hK
        go_wp2_with (first | (go_at_call 95; ((with_reducible refine HMW.out.mono ?_); rintro e w5 ⟨rfl, rfl⟩)) | (go_at_call 100; go_must ((with_reducible refine HSC.out.mono ?_); rintro e w6 ⟨v6, rfl, hr6, hg6, ha6⟩; obtain ⟨hal6, hb6, ht6, hf6⟩ := add_steps HRO.out HAL.out HB.out HW3.out (ys := [_]) (ns := [_]) ⟨HST.out, trivial⟩ hg6 ha6; have HR6 := Aside0.mk hr6; have HAL6 := Aside0.mk hal6; have HB6 := Aside0.mk hb6; have HT6 := Aside0.mk ht6; have HF6 := Aside0.mk hf6; clear hr6 hg6 ha6 hal6 hb6 ht6 hf6)))
        refine ⟨⟨K + 8, j + 1, _, by have := HKJ.out; omega, by have := HKJ.out; have := HXM.out; omega, by rw [List.length_append, hxs]; rfl, by go_num, HR6, ⟨?_⟩, HB6, ⟨?_⟩, ⟨?_⟩, ⟨?_⟩, ⟨?_⟩⟩, by simp [intOf]; omega⟩
        · rw [wrsN_succ, ← HKJ.out]
          exact HAL6.out
        · exact reads_frA (HXR.out.below HW3.out) HF6.out (fun _ ad e => by obtain rfl := Option.some.inj e; exact (HXG.out (by omega) _ _ rfl).2)
        · intro _ g4 o4 e4
          have e5 := Option.some.inj e4
          simp only [Addr.mk.injEq] at e5
          obtain ⟨rfl, _⟩ := e5
          refine HT6.out _ (Nat.lt_of_lt_of_le ?_ HW3.out.size) (HXG.out (by omega) _ _ rfl)
          obtain ⟨ad, e, hx⟩ := HXR.out.2.2 (by omega)
          obtain rfl := Option.some.inj e
          exact World.block_lt_of_cell? _ _ (hx 0 (by omega))
        · exact HF6.out.cell (bel_cell HW3.out HBD.out) (fun e => HTD.out.2 e)
        · exact HT6.out _ (Nat.lt_of_lt_of_le (World.block_lt_of_cell? _ _ HBD.out) HW3.out.size) HTD.out
      · have hKX : K = X.length := by have := HXM.out; omega
        obtain rfl : j = X.length / 8 := by omega
        have HKX := Aside0.mk hKX
        have hKl : decide ((K : Int) < (X.length : Int)) = false := by simp; omega
        have hKn : decide (K < X.length) = false := by simp; omega
        have HXS := Aside0.mk (show xs.length ≤ 90000 by omega)
        clear hKX hlt hK hxs hj
        have bdc := HBD.out
        have HPU := Aside0.mk (fun (W : World) => mput_calls W HMK.out)
        have HMM := Aside0.mk (fun (W : World) => mark_calls (g + 1) kk W)
        go_wp2_with (first | (go_at_call 52; ((with_reducible refine (HMM.out _).mono ?_); rintro e w5 ⟨rfl, hb⟩; have HB5 := Aside0.mk hb; clear hb)) | (go_at_call 92; ((with_reducible refine (HPU.out w5).mono ?_); rintro e w7 ⟨g7, c7, b7, rfl, hr7, hg7, hb7⟩; have HR7 := Aside0.mk hr7; have HG7 := Aside0.mk hg7; have HB7 := Aside0.mk (bel_step HB5.out hb7); have bd7 := bel_cell HB7.out HBD.out; clear hr7 hb7 hg7)))
        have HBD' := Aside0.mk (show Below wr.heap.size wr w7.drew from HB7.out.drew)
        have HBX := Aside0.mk (fun W (h : Below wr.heap.size wr W) => bel_cell h HBD.out)
        have HRD := Aside0.mk (show ReadsInt w7.drew .u8 (some ⟨g7, 0, none⟩) 8 (markL (g + 1) kk) from HR7.out)
        have HG7' := Aside0.mk (Nat.le_trans HB5.out.size HG7.out)
        have HM8 := Aside0.mk (markL_length (g + 1) kk)
        have HKX2 := HKX
        refine start_ (n := 19) (S := fun w' => w'.cell? ⟨w.heap.size, 0, none⟩ = some (.pointer (some ⟨p, 0, none⟩))) (ds := []) #[false, false, false, false, false, false, false, false, false, false, false, false, false, false, false, false, false, false, false] (by kernel_rfl) rfl rfl ((HBX.out _ HBD'.out)) (fun hHeld => ?_)
        refine pure_ (i := 0) (N := some 72) (v := ?_) (a' := ?_) #[true, false, false, false, false, false, false, false, false, false, false, false, false, false, false, false, false, false, false] rfl rfl (by kernel_rfl) (fun _ _ _ h => h) (Or.inl ⟨by rfl, ?_⟩) ?_ ?_
        rotate_left
        · intro w'
          go_simp
          with_reducible rfl
        rotate_left
        · simp only [Act.put, List.setIfInBounds_toArray, List.set_cons_zero, List.set_cons_succ, i64_w, i32_w]
          rfl
        refine pure_ (i := 1) (N := some 73) (v := ?_) (a' := ?_) #[true, true, false, false, false, false, false, false, false, false, false, false, false, false, false, false, false, false, false] rfl rfl (by kernel_rfl) (fun _ _ _ h => h) (Or.inl ⟨by rfl, ?_⟩) ?_ ?_
        rotate_left
        · intro w'
          go_simp
          with_reducible rfl
        rotate_left
        · simp only [Act.put, List.setIfInBounds_toArray, List.set_cons_zero, List.set_cons_succ, i64_w, i32_w]
          rfl
        refine pure_ (i := 2) (N := some 74) (v := ?_) (a' := ?_) #[true, true, true, false, false, false, false, false, false, false, false, false, false, false, false, false, false, false, false] rfl rfl (by kernel_rfl) (fun _ _ _ h => h) (Or.inl ⟨by rfl, ?_⟩) ?_ ?_
        rotate_left
        · intro w'
          go_simp
          with_reducible rfl
        rotate_left
        · simp only [Act.put, List.setIfInBounds_toArray, List.set_cons_zero, List.set_cons_succ, i64_w, i32_w]
          rfl
        refine pure_ (i := 3) (N := some 75) (v := ?_) (a' := ?_) #[true, true, true, true, false, false, false, false, false, false, false, false, false, false, false, false, false, false, false] rfl rfl (by kernel_rfl) (fun _ _ _ h => h) (Or.inl ⟨by rfl, ?_⟩) ?_ ?_
        rotate_left
        · intro w'
          go_simp
          with_reducible rfl
        rotate_left
        · simp only [Act.put, List.setIfInBounds_toArray, List.set_cons_zero, List.set_cons_succ, i64_w, i32_w]
          rfl
        refine pure_ (i := 4) (N := some 76) (v := ?_) (a' := ?_) #[true, true, true, true, true, false, false, false, false, false, false, false, false, false, false, false, false, false, false] rfl rfl (by kernel_rfl) (fun _ _ _ h => h) (Or.inl ⟨by rfl, ?_⟩) ?_ ?_
        rotate_left
        · intro w'
          go_simp
          with_reducible rfl
        rotate_left
        · simp only [Act.put, List.setIfInBounds_toArray, List.set_cons_zero, List.set_cons_succ, i64_w, i32_w]
          rfl
        refine pure_ (i := 8) (N := some 80) (v := ?_) (a' := ?_) #[true, true, true, true, true, false, false, false, true, false, false, false, false, false, false, false, false, false, false] rfl rfl (by kernel_rfl) (fun _ _ _ h => h) (Or.inl ⟨by rfl, ?_⟩) ?_ ?_
        rotate_left
        · intro w'
          go_simp
          with_reducible rfl
        rotate_left
        · simp only [Act.put, List.setIfInBounds_toArray, List.set_cons_zero, List.set_cons_succ, i64_w, i32_w]
          rfl
        refine pure_ (i := 9) (N := some 81) (v := ?_) (a' := ?_) #[true, true, true, true, true, false, false, false, true, true, false, false, false, false, false, false, false, false, false] rfl rfl (by kernel_rfl) (fun _ _ _ h => h) (Or.inl ⟨by rfl, ?_⟩) ?_ ?_
        rotate_left
        · intro w'
          go_simp
          with_reducible rfl
        rotate_left
        · simp only [Act.put, List.setIfInBounds_toArray, List.set_cons_zero, List.set_cons_succ, i64_w, i32_w]
          rfl
        refine pure_ (i := 11) (N := some 83) (v := ?_) (a' := ?_) #[true, true, true, true, true, false, false, false, true, true, false, true, false, false, false, false, false, false, false] rfl rfl (by kernel_rfl) (fun _ _ _ h => h) (Or.inl ⟨by rfl, ?_⟩) ?_ ?_
        rotate_left
        · intro w'
          go_simp
          with_reducible rfl
        rotate_left
        · simp only [Act.put, List.setIfInBounds_toArray, List.set_cons_zero, List.set_cons_succ, i64_w, i32_w]
          rfl
        refine take_ (i := 6) (N := some 78) (v := ?_) (a' := ?_) #[true, true, true, true, true, false, true, false, true, true, false, true, false, false, false, false, false, false, false] rfl rfl (by kernel_rfl) (fun _ _ _ h => h) (Or.inl ⟨by rfl, ?_⟩) hHeld ?_ ?_
        rotate_left
        · intro w' s0
          go_simp
          with_reducible rfl
        rotate_left
        · simp only [Act.put, List.setIfInBounds_toArray, List.set_cons_zero, List.set_cons_succ, i64_w, i32_w]
          rfl
        refine pure_ (i := 7) (N := some 79) (v := ?_) (a' := ?_) #[true, true, true, true, true, false, true, true, true, true, false, true, false, false, false, false, false, false, false] rfl rfl (by kernel_rfl) (fun _ _ _ h => h) (Or.inl ⟨by rfl, ?_⟩) ?_ ?_
        rotate_left
        · intro w'
          go_simp
          with_reducible rfl
        rotate_left
        · simp only [Act.put, List.setIfInBounds_toArray, List.set_cons_zero, List.set_cons_succ, i64_w, i32_w]
          rfl
        refine take_ (i := 13) (N := some 85) (v := ?_) (a' := ?_) #[true, true, true, true, true, false, true, true, true, true, false, true, false, true, false, false, false, false, false] rfl rfl (by kernel_rfl) (fun _ _ _ h => h) (Or.inl ⟨by rfl, ?_⟩) hHeld ?_ ?_
        rotate_left
        · intro w' s0
          go_simp
          with_reducible rfl
        rotate_left
        · simp only [Act.put, List.setIfInBounds_toArray, List.set_cons_zero, List.set_cons_succ, i64_w, i32_w]
          rfl
        refine pure_ (i := 14) (N := some 86) (v := ?_) (a' := ?_) #[true, true, true, true, true, false, true, true, true, true, false, true, false, true, true, false, false, false, false] rfl rfl (by kernel_rfl) (fun _ _ _ h => h) (Or.inl ⟨by rfl, ?_⟩) ?_ ?_
        rotate_left
        · intro w'
          go_simp
          with_reducible rfl
        rotate_left
        · simp only [Act.put, List.setIfInBounds_toArray, List.set_cons_zero, List.set_cons_succ, i64_w, i32_w]
          rfl
        refine one_ (i := 5) (N := some 77) #[true, true, true, true, true, true, true, true, true, true, false, true, false, true, true, false, false, false, false] rfl rfl (by kernel_rfl) (by decide) (fun K hK => ?_)
        refine goesv_ (bs := #[]) (cs := #[.pointer (some ⟨w.heap.size, 0, none⟩)]) Try.func97 (by kernel_rfl) rfl #[.int .i64 (at_ : Int), .int .i64 (X.length : Int), .pointer (some ⟨w.heap.size, 0, none⟩)] (by rfl) rfl rfl rfl (by simp only [List.map_toArray, List.map_cons, List.map_nil]; rfl) ?_
        with_reducible refine (mkfl2_calls w7.drew w.heap.size at_ X.length).mono ?_
        rintro e W1 ⟨ba1, bn1, rfl, ha1, hn1, hca1, hcn1, hb⟩
        refine ⟨_, rfl, ?_⟩
        have HF1 := Aside0.mk (And.intro ha1 (And.intro hn1 (And.intro hca1 hcn1)))
        have HB8 := Aside0.mk (bel_step HBD'.out hb)
        have HC1 := Aside0.mk hb
        clear ha1 hn1 hca1 hcn1 hb
        refine hK.out _ _ ((HBX.out _ HB8.out)) (fun hHeld => ?_)
        clear hK K
        refine norm_ (a' := ?_) ?_ ?_
        rotate_left
        · show Act.put _ (some 77) _ = _
          simp only [Act.put, List.setIfInBounds_toArray, List.set_cons_zero, List.set_cons_succ, i64_w, i32_w]
          rfl
        refine one_ (i := 10) (N := some 82) #[true, true, true, true, true, true, true, true, true, true, true, true, false, true, true, false, false, false, false] rfl rfl (by kernel_rfl) (by decide) (fun K hK => ?_)
        refine goesv_ (bs := #[]) (cs := #[.pointer (some ⟨w.heap.size, 0, none⟩)]) Try.func95 (by kernel_rfl) rfl #[.int .i64 0, .slice (some ⟨g7, 0, none⟩) 8 c7, .pointer (some ⟨w.heap.size, 0, none⟩)] (by rfl) rfl rfl rfl (by simp only [List.map_toArray, List.map_cons, List.map_nil]; rfl) ?_
        with_reducible refine (mkwr2_calls W1 w.heap.size 0 (some ⟨g7, 0, none⟩) 8 c7).mono ?_
        rintro e W2 ⟨ba2, bx2, rfl, ha2, hn2, hca2, hcn2, hb⟩
        refine ⟨_, rfl, ?_⟩
        have HF2 := Aside0.mk (And.intro ha2 (And.intro hn2 (And.intro hca2 hcn2)))
        have HB9 := Aside0.mk (bel_step HB8.out hb)
        have HC2 := Aside0.mk hb
        clear ha2 hn2 hca2 hcn2 hb
        refine hK.out _ _ ((HBX.out _ HB9.out)) (fun hHeld => ?_)
        clear hK K
        refine norm_ (a' := ?_) ?_ ?_
        rotate_left
        · show Act.put _ (some 82) _ = _
          simp only [Act.put, List.setIfInBounds_toArray, List.set_cons_zero, List.set_cons_succ, i64_w, i32_w]
          rfl
        refine one_ (i := 12) (N := some 84) #[true, true, true, true, true, true, true, true, true, true, true, true, true, true, true, false, false, false, false] rfl rfl (by kernel_rfl) (by decide) (fun K hK => ?_)
        refine goesv_ (bs := #[]) (cs := #[.pointer (some ⟨w.heap.size, 0, none⟩)]) Try.func97 (by kernel_rfl) rfl #[.int .i64 0, .int .i64 8, .pointer (some ⟨w.heap.size, 0, none⟩)] (by rfl) rfl rfl rfl (by simp only [List.map_toArray, List.map_cons, List.map_nil]; rfl) ?_
        with_reducible refine (mkfl2_calls W2 w.heap.size 0 8).mono ?_
        rintro e W3 ⟨ba3, bn3, rfl, ha3, hn3, hca3, hcn3, hb⟩
        refine ⟨_, rfl, ?_⟩
        have HF3 := Aside0.mk (And.intro ha3 (And.intro hn3 (And.intro hca3 hcn3)))
        have HB10 := Aside0.mk (bel_step HB9.out hb)
        have HC3 := Aside0.mk hb
        clear ha3 hn3 hca3 hcn3 hb
        refine hK.out _ _ ((HBX.out _ HB10.out)) (fun hHeld => ?_)
        clear hK K
        refine norm_ (a' := ?_) ?_ ?_
        rotate_left
        · show Act.put _ (some 84) _ = _
          simp only [Act.put, List.setIfInBounds_toArray, List.set_cons_zero, List.set_cons_succ, i64_w, i32_w]
          rfl
        refine one_ (i := 15) (N := some 87) #[true, true, true, true, true, true, true, true, true, true, true, true, true, true, true, true, false, false, false] rfl rfl (by kernel_rfl) (by decide) (fun K hK => ?_)
        refine value_ (w1 := ?_) (v := ?_) (by rfl) rfl ?_ ?_
        rotate_left 2
        · go_simp
          constructor
          · rfl
          · rfl
        refine hK.out _ _ ((HBX.out _ (below_alloc HB10.out _))) (fun hHeld => ?_)
        clear hK K
        refine norm_ (a' := ?_) ?_ ?_
        rotate_left
        · show Act.put _ (some 87) _ = _
          simp only [Act.put, List.setIfInBounds_toArray, List.set_cons_zero, List.set_cons_succ, i64_w, i32_w]
          rfl
        refine one_ (i := 16) (N := some 88) #[true, true, true, true, true, true, true, true, true, true, true, true, true, true, true, true, true, false, false] rfl rfl (by kernel_rfl) (by decide) (fun K hK => ?_)
        refine goes_ Try.func100 (by kernel_rfl) rfl #[u13, .slice (some ⟨W3.heap.size, 0, none⟩) 5 5] (by rfl) rfl rfl (by simp only [List.map_toArray, List.map_cons, List.map_nil]; rfl) ?_
        with_reducible refine (five_calls (g7 := g7) (c7 := c7) (M := (markL (g + 1) kk)) HRO.out HAL.out HB.out HTD.out HBD.out HBD'.out (by have := HXS.out; omega) HF1.out HC1.out HF2.out HC2.out HF3.out HC3.out HG7'.out HRD.out HM8.out).mono ?_
        rintro e wE ⟨vE, rfl, hrE, haE, hbE, hcE⟩
        refine ⟨_, rfl, ?_⟩
        have HCE := Aside0.mk hcE
        have HRE := Aside0.mk hrE
        have HAE := Aside0.mk haE
        have HBE := Aside0.mk hbE
        clear hrE haE hbE hcE
        refine hK.out _ _ (HCE.out) (fun hHeld => ?_)
        clear hK K
        refine norm_ (a' := ?_) ?_ ?_
        rotate_left
        · show Act.put _ (some 88) _ = _
          simp only [Act.put, List.setIfInBounds_toArray, List.set_cons_zero, List.set_cons_succ, i64_w, i32_w]
          rfl
        refine pure_ (i := 17) (N := some 4) (v := ?_) (a' := ?_) #[true, true, true, true, true, true, true, true, true, true, true, true, true, true, true, true, true, true, false] rfl rfl (by kernel_rfl) (fun _ _ _ h => h) (Or.inl ⟨by rfl, ?_⟩) ?_ ?_
        rotate_left
        · intro w'
          go_simp
          with_reducible rfl
        rotate_left
        · simp only [Act.put, List.setIfInBounds_toArray, List.set_cons_zero, List.set_cons_succ, i64_w, i32_w]
          rfl
        refine pure_ (i := 18) (N := some 5) (v := ?_) (a' := ?_) #[true, true, true, true, true, true, true, true, true, true, true, true, true, true, true, true, true, true, true] rfl rfl (by kernel_rfl) (fun _ _ _ h => h) (Or.inl ⟨by rfl, ?_⟩) ?_ ?_
        rotate_left
        · intro w'
          go_simp
          with_reducible rfl
        rotate_left
        · simp only [Act.put, List.setIfInBounds_toArray, List.set_cons_zero, List.set_cons_succ, i64_w, i32_w]
          rfl
        refine done_ (by kernel_rfl) ?_

        all_goals
          go_wp2
          go_ret2
          exact ⟨_, _, rfl, HRE.out, HAE.out, HBE.out⟩
theorem begin_good (w : World) (p : Nat) (v : Value) (s f : Nat) (d : Dev) (A : Option Addr) (c : Nat) (l : List Int) (h : HasD w p v s f d) (hr : ReadsInt w .u8 A l.length l) (hf : ¬ FullD d l) :
    Calls Try.prog 54 #[.pointer (some ⟨p, 0, none⟩), .slice A l.length c] w (BegunD w p d l) := by
  have hmax := h.ok.max
  have hcase := dmark_cases d
  have hnb : roomD d ≤ 65536 := by rw [roomD, roomN]; omega
  have hg0 : 0 ≤ (dmark d).1 ∧ (dmark d).1 < 4294967295 := by
    rw [FullD] at hf
    rcases hcase with hc | hc
    · rw [hc]; decide
    · have := hc.1
      omega
  have hk : (newK d = 0 ∨ newK d = 1) ∧ ((decide (0 < (dmark d).1) = false ∧ newK d = (dmark d).2) ∨ (decide (0 < (dmark d).1) = true ∧ IntKind.i64.wrap (1 - (dmark d).2) = newK d)) := by
    rw [newK]
    rcases hcase with hc | hc
    · rw [hc]
      exact ⟨.inl rfl, .inl ⟨rfl, rfl⟩⟩
    · obtain ⟨h1, h2, h3, h4⟩ := hc
      rw [if_neg (by omega)]
      exact ⟨by omega, .inr ⟨by simp; omega, IntWalk.i64_in _ (by omega)⟩⟩
  obtain ⟨hk1, hk2⟩ := hk
  have hkn : (newK d).toNat * roomD d ≤ 65536 := by rcases hk1 with e | e <;> rw [e] <;> simp <;> omega
  have hlr : l.length ≤ roomD d := by rw [FullD] at hf; omega
  refine begin_core w p v s f d A c l (padL l) (dmark d).1 (dmark d).2 (newK d) (roomD d) (d.B.length / 8) (newK d).toNat ((newK d).toNat * roomD d) (newAt d) h ⟨fun h => dmark_calls _ p v s f d h⟩ ⟨fun W h => words_calls W p v s f d h⟩ ⟨fun W => room_calls (d.B.length / 8) W (by omega)⟩
    ⟨fun W hr => pad_calls A c l W hr (by omega)⟩ ⟨hr⟩ ⟨⟨by omega, by omega, by omega, by omega⟩⟩ ⟨by rw [padL_length]; omega⟩ (by rw [padL_length]; omega) hg0 (by simp; omega) (by simp; omega) ?_ ?_ (by rw [newAt]; omega) hk2
  · rcases hk1 with e | e
    · rw [e]
      simp only [Int.zero_mul, Int.toNat_zero, Nat.zero_mul]
      rfl
    · rw [e]
      simp only [Int.one_mul, Int.toNat_one, Nat.one_mul]
      exact IntWalk.i64_in _ (by omega)
  · rw [IntWalk.i64_in _ (by omega), newAt]
    push_cast
    rfl
end Go.Proofs.Ytbfogcckbhkciaa.Hand
namespace Go.Proofs.Ytbfogcckbhkciaa.Hand
open Go.RowKit Go.Maps Go.Proofs.YtbfogcckbhkciaaW.PrintWords
set_option linter.unusedVariables false
set_option linter.unusedSimpArgs false
theorem wrsN_ok {at_ j : Nat} {X : List Int} (h : Bys X) : ∀ m ∈ wrsN at_ X j, OkM m := by
  intro m hm
  obtain ⟨i, _, rfl⟩ := List.mem_map.1 hm
  exact cut_bys h _ _
theorem padL_bys {l : List Int} (h : Bys l) : Bys (padL l) := by
  intro x hx
  rcases List.mem_append.1 hx with hx | hx
  · exact h x hx
  · rw [List.eq_of_mem_replicate hx]
    omega
theorem newK_ok {d : Dev} {l : List Int} (hf : ¬ FullD d l) : MarkOk ((dmark d).1 + 1) (newK d) := by
  rw [FullD] at hf
  rw [newK]
  rcases dmark_cases d with hc | hc
  · rw [hc]
    exact ⟨by decide, by decide, by decide, by decide⟩
  · obtain ⟨h1, h2, h3, h4⟩ := hc
    rw [if_neg (by omega)]
    exact ⟨by omega, by omega, by omega, by omega⟩
theorem stepsD_okm {d : Dev} {l : List Int} (hl : Bys l) (hf : ¬ FullD d l) : ∀ m ∈ stepsD d l, OkM m := by
  intro m hm
  rw [stepsD] at hm
  rcases List.mem_append.1 hm with hm | hm
  · exact wrsN_ok (padL_bys hl) m hm
  · simp only [List.mem_cons, List.not_mem_nil, or_false] at hm
    rcases hm with rfl | rfl | rfl | rfl | rfl
    · trivial
    · trivial
    · exact markL_bys (newK_ok hf)
    · trivial
    · trivial
/-- What a device is behind Save. -/
def Dev.save (d : Dev) (l : List Int) : Dev := d.steps (stepsD d l)
theorem row_cell {w : World} {base : Nat} {u : Value} {xs : List StepV} (h : RowS w base u xs) (h0 : 0 < xs.length) : ∃ g c, u = .slice (some ⟨g, 0, none⟩) xs.length c ∧ base ≤ g ∧ ∀ k x, xs[k]? = some x → w.cell? ⟨g, k, none⟩ = some (encS x) := by
  obtain ⟨g, cap, e, hg, _⟩ := own_slice_form h h0
  refine ⟨g, cap, e, hg, fun k x hx => ?_⟩
  obtain ⟨A, c, e2, _, hC⟩ := Kd.R_reads h
  rw [e] at e2
  simp only [Value.slice.injEq] at e2
  obtain ⟨hA, _, _⟩ := e2
  have hR := Kd.reads_of_C (d := StepV.fe 0) hC
  obtain ⟨ad, ea, hc⟩ := hR.2.2 h0
  rw [← hA] at ea
  obtain rfl := Option.some.inj ea
  obtain ⟨hl, hk⟩ := List.getElem?_eq_some_iff.1 hx
  have := hc k hl
  rw [add_plain, List.getD_eq_getElem?_getD, hx] at this
  simpa using this
/-- What Save leaves. -/
def SavedD (w : World) (p : Nat) (v : Value) (s f : Nat) (d : Dev) (l : List Int) (e : Ending) (w' : World) : Prop :=
  e = .returned (.int .i64 0) ∧ HasD w' p v s f (d.save l) ∧ Fr (OwnD v s f) w w'
set_option maxRecDepth 100000 in
theorem save_good (w : World) (p : Nat) (v : Value) (s f : Nat) (d : Dev) (A : Option Addr) (c : Nat) (l : List Int) (h : HasD w p v s f d) (hr : ReadsInt w .u8 A l.length l) (hbl : Bys l) (hf : ¬ FullD d l) :
    Calls Try.prog 49 #[.pointer (some ⟨p, 0, none⟩), .slice A l.length c] w (SavedD w p v s f d l) := by
  have HB := Aside0.mk (show Calls Try.prog 54 #[.pointer (some ⟨p, 0, none⟩), .slice A l.length c] w fun e w' => ∃ (u : Value) (xs : List StepV), e = .returned (.tuple #[u, .int .i64 0]) ∧ RowS w' w.heap.size u xs ∧ IsAll w' (fun b => w.heap.size ≤ b) p xs (stepsD d l) ∧ Below w.heap.size w w' from begin_good w p v s f d A c l h hr hf)
  have HOK := Aside0.mk (stepsD_okm hbl hf)
  have HH := Aside0.mk h
  have HSV := Aside0.mk (show d.save l = d.steps (stepsD d l) from rfl)
  obtain ⟨ms, hms⟩ : ∃ ms, ms = stepsD d l := ⟨_, rfl⟩
  have h5 : 5 ≤ ms.length := by rw [hms, stepsD, List.length_append]; simp
  have hml : ms.length ≤ 9000 := by
    have hmx := h.ok.max
    rw [hms, stepsD, List.length_append, wrsN, List.length_map, List.length_range, padL_length]
    rw [FullD, roomD, roomN] at hf
    simp
    omega
  rw [← hms] at HB HOK HSV
  clear h hr hms hf
  go_enter Try.func49, Try.ntmps49
  go_wp2_with (go_at_call 54; ((with_reducible refine HB.out.mono ?_); rintro e w1 ⟨u, xs, rfl, hrow, hall, hb⟩; have HAL := Aside0.mk hall; have HB1 := Aside0.mk hb; have HXL := Aside0.mk hall.len; obtain ⟨g, cu, rfl, hg, hcell⟩ := row_cell hrow (by have := hall.len; omega); have HCE := Aside0.mk hcell; have HG := Aside0.mk hg; clear hrow hall hb hcell hg))
  have hxl2 : xs.length ≤ 9000 := by have := HXL.out; omega
  go_loopw [17] (fun i wr => ∃ k : Nat, k ≤ xs.length ∧ i = .int .i64 (k : Int) ∧ Aside0 (HasD wr p v s f (d.steps (ms.take k))) ∧ Aside0 (Fr (OwnD v s f) w1 wr)) (fun i _ => (xs.length - intOf i).toNat)
  case atStart => exact ⟨0, Nat.zero_le _, rfl, ⟨HH.out.move HB1.out⟩, ⟨Fr.refl _ _⟩⟩
  case round =>
    obtain ⟨k, hk, rfl, HD, HF⟩ := hrel
    by_cases hlt : k < xs.length
    · obtain ⟨x, hx⟩ : ∃ x, xs[k]? = some x := ⟨_, List.getElem?_eq_getElem hlt⟩
      obtain ⟨m, hm, hst1⟩ := HAL.out.get hx
      have hTo : ∀ b, w.heap.size ≤ b → ¬ OwnD v s f b := fun b hb ho => absurd (HH.out.own_lt ho) (Nat.not_lt.2 hb)
      have hst := hst1.move HF.out hTo
      have hcx := HF.out.cell (HCE.out k x hx) (hTo _ HG.out)
      have HTK := Aside0.mk (take_steps (d := d) hm)
      have hok := HOK.out m (List.mem_of_getElem? hm)
      clear hst1 hTo hm hx
      cases x with
      | wr bd ba bx =>
        cases m with
        | wr a y =>
          have HDO := Aside0.mk (step_wr wr p v s f _ _ bd ba bx a y HD.out hst hok)
          simp only [encS] at hcx
          clear hst hok
          go_wp2_with (go_at_call 96; ((with_reducible refine HDO.out.mono ?_); rintro e w3 ⟨rfl, hd, hf⟩; have HD3 := Aside0.mk hd; have HF3 := Aside0.mk (HF.out.trans' hf); clear hd hf))
          refine ⟨⟨k + 1, by omega, by go_num, ⟨?_⟩, HF3⟩, by simp [intOf]; omega⟩
          rw [HTK.out]
          exact HD3.out
        | fl a n => exact hst.elim
        | fe => exact hst.elim
      | fl bd ba bn =>
        cases m with
        | fl a n =>
          have HDO := Aside0.mk (step_fl wr p v s f _ _ bd ba bn a n HD.out hst)
          simp only [encS] at hcx
          clear hst hok
          go_wp2_with (go_at_call 98; ((with_reducible refine HDO.out.mono ?_); rintro e w3 ⟨rfl, hd, hf⟩; have HD3 := Aside0.mk hd; have HF3 := Aside0.mk (HF.out.trans' hf); clear hd hf))
          refine ⟨⟨k + 1, by omega, by go_num, ⟨?_⟩, HF3⟩, by simp [intOf]; omega⟩
          rw [HTK.out]
          exact HD3.out
        | wr a n => exact hst.elim
        | fe => exact hst.elim
      | fe q =>
        cases m with
        | fe =>
          obtain rfl : q = p := hst
          have HDO := Aside0.mk (step_fe wr q v s f _ HD.out)
          simp only [encS] at hcx
          clear hok
          go_wp2_with (go_at_call 24; ((with_reducible refine HDO.out.mono ?_); rintro e w3 ⟨rfl, hd, hf⟩; have HD3 := Aside0.mk hd; have HF3 := Aside0.mk (HF.out.trans' hf); clear hd hf))
          refine ⟨⟨k + 1, by omega, by go_num, ⟨?_⟩, HF3⟩, by simp [intOf]; omega⟩
          rw [HTK.out]
          exact HD3.out
        | wr a n => exact hst.elim
        | fl a n => exact hst.elim
    · have hk2 : k = ms.length := by have := HXL.out; omega
      have HK2 := Aside0.mk hk2
      clear hk2
      go_wp2
      go_ret
      have hD := HD.out
      rw [HK2.out, List.take_length] at hD
      rw [SavedD, HSV.out]
      exact ⟨rfl, hD, (Fr.of_below HB1.out _).trans' HF.out⟩
end Go.Proofs.Ytbfogcckbhkciaa.Hand
namespace Go.Proofs.Ytbfogcckbhkciaa.Hand
open Go.RowKit Go.Maps Go.Proofs.YtbfogcckbhkciaaW.PrintWords
set_option linter.unusedVariables false
set_option linter.unusedSimpArgs false
def dk0 : Dev := Dev.of (List.replicate 56 0)
def dkX : List Int := 120 :: List.replicate 23 0
def dk1 : Dev := dk0.save dkX
def dk2 : Dev := dk1.crash []
theorem dk_mark0 : dmark dk0 = (0, 0) := by decide +kernel
theorem dk_full : ¬ FullD dk0 dkX := by decide +kernel
theorem dk_mark2 : dmark dk2 = (1, 0) := by decide +kernel
theorem dk_load2 : loadL dk2 = dkX := by decide +kernel
theorem dk_read : readM (markN 5 1) = (5, 1, true) := readM_mark (by decide)
theorem dkX_reads (w : World) : ReadsInt (w.alloc (.cells ((madeCells #[.int .u8 0] 24).setIfInBounds 0 (.int .u8 120)) 5)) .u8 (some ⟨w.heap.size, 0, none⟩) 24 dkX := by
  refine ⟨rfl, by decide, fun _ => ⟨_, rfl, fun j hj => ?_⟩⟩
  rw [add_plain, Nat.zero_add]
  refine blk_cell (heap_alloc_new w _) ?_
  by_cases h0 : j = 0
  · subst h0
    simp [madeCells, dkX]
  · obtain ⟨i, rfl⟩ : ∃ i, j = i + 1 := ⟨j - 1, by omega⟩
    have hi : i < 23 := by omega
    rw [Array.getElem?_setIfInBounds_ne (by omega), dkX, List.getD_cons_succ, List.getD_eq_getElem?_getD, List.getElem?_replicate, if_pos hi]
    simp [madeCells, hj, Nat.mod_one]
theorem dkX_bys : Bys dkX := by
  intro x hx
  rcases List.mem_cons.1 hx with rfl | hx
  · decide
  · rw [List.eq_of_mem_replicate hx]
    decide
section
variable (w : World) (p : Nat) (v : Value) (s f : Nat)
theorem dka_save (A : Option Addr) (c : Nat) (h : HasD w p v s f dk0) (hr : ReadsInt w .u8 A 24 dkX) : Calls Try.prog 49 #[.pointer (some ⟨p, 0, none⟩), .slice A 24 c] w fun e w' => e = .returned (.int .i64 0) ∧ HasD w' p v s f dk1 ∧ Fr (OwnD v s f) w w' :=
  save_good w p v s f dk0 A c dkX h hr dkX_bys dk_full
theorem dka_crash (h : HasD w p v s f dk1) : Calls Try.prog 30 #[.pointer (some ⟨p, 0, none⟩), .slice none 0 0] w fun e w' => e = .returned (.tuple #[]) ∧ HasD w' p v s f dk2 ∧ Fr (OwnD v s f) w w' :=
  crash_calls w p v s f dk1 none 0 [] h ⟨rfl, by decide, fun h => absurd h (by decide)⟩ (fun h => absurd h (by decide))
theorem dka_load (h : HasD w p v s f dk2) : Calls Try.prog 51 #[.pointer (some ⟨p, 0, none⟩)] w fun e w' => ∃ A c, e = .returned (.tuple #[.slice A 24 c, .int .i64 1, .int .i64 0]) ∧ ReadsInt w' .u8 A 24 dkX ∧ Below w.heap.size w w' := by
  have := load_some w p v s f dk2 h (by rw [dk_mark2]; decide)
  rw [dk_load2, dk_mark2] at this
  exact this
theorem dka_mark : Calls Try.prog 52 #[.int .i64 5, .int .i64 1] w fun e w' => e = .returned (.int .u64 (markN 5 1)) ∧ Below w.heap.size w w' := mark_calls 5 1 w
theorem dka_read : Calls Try.prog 53 #[.int .u64 (markN 5 1)] w fun e w' => e = .returned (.tuple #[.int .i64 5, .int .i64 1, .bool true]) ∧ Below w.heap.size w w' := by
  have := mread_calls (markN 5 1) w (markN_range 5 1).1 (markN_range 5 1).2
  rw [dk_read] at this
  exact this
theorem dka_room : Calls Try.prog 50 #[.int .i64 7] w fun e w' => e = .returned (.int .i64 24) ∧ w = w' := room_calls 7 w (by omega)
end
set_option maxRecDepth 100000 in
theorem dk_alive (w : World) : Calls Try.prog 48 #[] w fun e w' => e = .returned (.bool true) ∧ Below w.heap.size w w' := by
  have HN := Aside0.mk (show Calls Try.prog 27 #[.int .i64 7] w (NewDev w (List.replicate 56 0)) from new_calls w 7 (by omega))
  have km := print_make_int (P := Try.prog) 23 5 (.int .u8 0) 1 Try.underlying23 info_u8 rfl (by decide) 24 (by omega) (by omega)
  rw [show (24 : Int).toNat = 24 by rfl] at km
  go_enter Try.func48, Try.ntmps48
  go_wp2_with (first | (go_at_call 27; ((with_reducible refine HN.out.mono ?_); rintro e w1 ⟨p, v, s, f, rfl, hd1, hp1, hv1, hb1⟩; have HD1 := Aside0.mk (show HasD w1 p v s f dk0 from hd1); have HV := Aside0.mk hv1; have HB1 := Aside0.mk hb1; clear hd1 hp1 hv1 hb1)) | (go_at_call 51; ((with_reducible refine (load_none _ p v s f _ HD1.out (by rw [dk_mark0])).mono ?_); rintro e w2 ⟨rfl, hb⟩; have HD2 := Aside0.mk (HD1.out.move hb); have HB2 := Aside0.mk (bel_step HB1.out hb); have hz0 := (blk_cell (heap_alloc_new w2 (.cells (madeCells #[.int .u8 0] 24) 5)) (i := 0) (v := .int .u8 0) (by simp [madeCells])); have hz1 := blk_free (heap_alloc_new w2 (.cells (madeCells #[.int .u8 0] 24) 5)) 0; clear hb)) | (go_at_call 49; ((with_reducible refine (dka_save _ p v s f (some ⟨w2.heap.size, 0, none⟩) 24 (HD2.out.move (below_alloc (Below.refl _ _) _)) (dkX_reads w2)).mono ?_); rintro e w3 ⟨rfl, hd, hf⟩; have HD3 := Aside0.mk hd; have HB3 := Aside0.mk ((below_alloc HB2.out _).trans (hf.below _ (below_alloc HB2.out _).size (fun b hb => HV.out b hb))); have HX3 := Aside0.mk (dev_keep (base := w2.heap.size) (dkX_reads w2) (fun ad e => by obtain rfl := Option.some.inj e; exact Nat.le_refl _) hf (fun b hb => HD2.out.own_lt hb)); clear hd hf)) | (go_at_call 30; ((with_reducible refine (dka_crash _ p v s f HD3.out).mono ?_); rintro e w4 ⟨rfl, hd, hf⟩; have HD4 := Aside0.mk hd; have HB4 := Aside0.mk (HB3.out.trans (hf.below _ HB3.out.size (fun b hb => HV.out b hb))); have HX4 := Aside0.mk (dev_keep (base := w2.heap.size) HX3.out (fun ad e => by obtain rfl := Option.some.inj e; exact Nat.le_refl _) hf (fun b hb => HD2.out.own_lt hb)); clear hd hf)) | (go_at_call 51; ((with_reducible refine (dka_load _ p v s f HD4.out).mono ?_); rintro e w5 ⟨A5, c5, rfl, hr, hb⟩; have HB5 := Aside0.mk (bel_step HB4.out hb); have HR5 := Aside0.mk hr; have HX5 := Aside0.mk (HX4.out.below hb); clear hr hb)) | (go_at_call 52; ((with_reducible refine (dka_mark _).mono ?_); rintro e w6 ⟨rfl, hb⟩; have HB6 := Aside0.mk (bel_step HB5.out hb); have HR6 := Aside0.mk (HR5.out.below hb); have HX6 := Aside0.mk (HX5.out.below hb); clear hb)) | (go_at_call 53; ((with_reducible refine (dka_read _).mono ?_); rintro e w7 ⟨rfl, hb⟩; have HB7 := Aside0.mk (bel_step HB6.out hb); have HR7 := Aside0.mk (HR6.out.below hb); have HX7 := Aside0.mk (show ReadsInt w7 .u8 (some ⟨w2.heap.size, 0, none⟩) 24 dkX from HX6.out.below hb); have hcv := conv_n (c := c5) HR7.out; have hcx := conv_n (c := 24) HX7.out; clear hb)) | (go_at_call 50; ((with_reducible refine (dka_room _).mono ?_); rintro e w8 ⟨rfl, rfl⟩)))
  go_ret
  exact ⟨rfl, HB7.out⟩
end Go.Proofs.Ytbfogcckbhkciaa.Hand
