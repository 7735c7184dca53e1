/- Put, of any number and width; small words. -/
import Derived.Test.YtbfogcckbhkciaaHandSigns
import Derived.Test.YtbfogcckbhkciaaHandTake
import Derived.Test.YtbfogcckbhkciaaHandOpen
namespace Go.Proofs.Ytbfogcckbhkciaa.Hand
open Go.RowKit Go.Proofs.YtbfogcckbhkciaaW.PrintWords

theorem put_any (P : Nat → Prop) (v : Value) (l : List Int) (width n : Int) (w : World) (ho : Kd.R (Kd.int .u8) 5 w 0 P v l) (hl : l.length + 8 ≤ 140737488355328) :
    Calls Try.prog 92 #[v, .int .i64 width, .int .u64 n] w fun e w' => ∃ v' : Value, e = .returned (.tuple #[v', .bool (fitsB n width)]) ∧ Kd.R (Kd.int .u8) 5 w' 0 (fun k => P k ∨ w.heap.size ≤ k) v' (l ++ putL n width) ∧ Fr P w w' := by
  cases h : fitsB n width with
  | true =>
    refine (put_calls P v l width n w ho h hl).mono ?_
    rintro e w' ⟨v', he, hr, hf⟩
    refine ⟨v', he, ?_, hf⟩
    rw [putL, h, if_pos rfl]
    exact hr
  | false =>
    refine (put_no v width n w h).mono ?_
    rintro e w' ⟨he, rfl⟩
    refine ⟨_, he, ?_, Fr.refl _ _⟩
    rw [putL, h, if_neg (by decide), List.append_nil]
    exact Kd.R_mono ho (fun _ hk => .inl hk)
theorem rPut_any (width n : Int) (w : World) (h0 : 0 ≤ n) (h1 : n < 18446744073709551616) : Calls Try.prog 82 #[.int .i64 width, .int .u64 n] w fun e w' => e = .returned (.string (strOfNums (putL n width))) ∧ Below w.heap.size w w' := by
  have hf := fits_one n width h0 h1
  cases h : fitsB n width with
  | true =>
    rw [h] at hf
    refine (rPut_yes width n w hf.symm h0).mono fun e w' he => ⟨?_, he.2⟩
    rw [he.1, putL, h, if_pos rfl]
  | false =>
    rw [h] at hf
    refine (rPut_no width n w hf.symm).mono ?_
    rintro e w' ⟨he, rfl⟩
    refine ⟨?_, Below.refl _ _⟩
    rw [he, putL, h]
    rfl
theorem str_extract (l : List Int) (a b : Nat) : (strOfNums l).extract a b = strOfNums ((l.take b).drop a) := by
  apply ByteArray.ext
  rw [ByteArray.data_extract]
  apply Array.toList_inj.1
  simp [strOfNums, List.extract_eq_drop_take', List.map_take, List.map_drop]
theorem bel_step {a : Nat} {w w1 w2 : World} (h : Below a w w1) (h1 : Below w1.heap.size w1 w2) (ha : a ≤ w.heap.size := by exact Nat.le_refl _) : Below a w w2 := h.trans (h1.mono (Nat.le_trans ha h.size))
theorem putL_le (n width : Int) : (putL n width).length ≤ 8 := by
  cases hf : fitsB n width with
  | false => rw [putL, hf]; simp
  | true =>
    have := putL_length hf
    have hw := hf
    simp only [fitsB, Bool.and_eq_true] at hw
    rcases width_of hw.1 with rfl | rfl | rfl | rfl <;> omega
theorem putL_two {n : Int} (h0 : 0 ≤ n) (h1 : n < 65536) : putL n 2 = leB n 2 := by
  have : fitsB n 2 = true := by
    rw [fits_one n 2 h0 (by omega)]
    simp [rfitsB, rightB, topN]
    omega
  rw [putL, this]
  rfl
theorem str_inj {l m : List Int} (hl : Bys l) (hm : Bys m) (h : strOfNums l = strOfNums m) : l = m := by
  rw [← bytes_str hl, h, bytes_str hm]
end Go.Proofs.Ytbfogcckbhkciaa.Hand
