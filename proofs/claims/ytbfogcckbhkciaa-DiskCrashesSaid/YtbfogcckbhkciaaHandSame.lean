/- Contract of the reference's Same at numbers. -/
import Derived.Test.YtbfogcckbhkciaaHandPm9
import Derived.Deep.QuietTactic
namespace Go.Proofs.Ytbfogcckbhkciaa.Hand
open Go.RowKit Go.Maps Go.Proofs.YtbfogcckbhkciaaW.PrintWords
set_option linter.unusedVariables false
theorem take_rdi {l : List Int} {k : Nat} (h : k < l.length) : l.take (k + 1) = l.take k ++ [rd l k] := by
  rw [List.take_add_one]
  congr 1
  rw [rd]
  simp [h]
set_option maxRecDepth 100000 in
theorem same_calls (A B : Option Addr) (c d : Nat) (l m : List Int) (w : World) (hA : ReadsInt w .i64 A l.length l) (hB : ReadsInt w .i64 B m.length m) :
    Calls Try.prog 34 #[.slice A l.length c, .slice B m.length d] w fun e w' => e = .returned (.bool (decide (l = m))) ∧ Below w.heap.size w w' := by
  have HA := Aside0.mk hA
  have HB := Aside0.mk hB
  clear hA hB
  by_cases hlm : l.length = m.length
  · have hl : l.length ≤ 9223372036854775807 := HA.out.2.1
    have hlm2 : ((l.length : Int) != m.length) = false := by simp; omega
    go_enter Try.func34, Try.ntmps34
    go_wp2
    go_loopw [5] (fun i wr => ∃ k : Nat, k ≤ l.length ∧ i = .int .i64 k ∧ Aside0 (l.take k = m.take k) ∧ Aside0 (Below w.heap.size w wr)) (fun i _ => (l.length - intOf i).toNat)
    case atStart => exact ⟨0, Nat.zero_le _, rfl, ⟨rfl⟩, ⟨Below.refl _ _⟩⟩
    case round =>
      obtain ⟨k, hk, rfl, HT, HW⟩ := hrel
      by_cases hlt : k < l.length
      · obtain ⟨ad, rfl, hx⟩ := HA.out.2.2 (by omega)
        obtain ⟨bd, rfl, hy⟩ := HB.out.2.2 (by omega)
        have hx1 : wr.cell? (ad.add k) = some (.int .i64 (rd l k)) := (HW.out.cell (World.block_lt_of_cell? w _ (hx k hlt))).trans (hx k hlt)
        have hy1 : wr.cell? (bd.add k) = some (.int .i64 (rd m k)) := (HW.out.cell (World.block_lt_of_cell? w _ (hy k (by omega)))).trans (hy k (by omega))
        clear hx hy
        have HL := Aside0.mk (take_rdi (l := l) (k := k) hlt)
        have HM := Aside0.mk (take_rdi (l := m) (k := k) (by omega))
        by_cases he : rd l k = rd m k
        · go_wp2
          go_quiet (fail)
          go_wp2
          go_roundw
          case rel => exact ⟨k + 1, by omega, by go_num, ⟨by rw [HL.out, HM.out, HT.out, he]⟩, ⟨pw_below_drewN HW.out _⟩⟩
          case measure => simp [intOf]; omega
        · go_wp2
          go_quiet (fail)
          go_wp2
          go_ret
          refine ⟨congrArg (fun b => Ending.returned (.bool b)) ?_, pw_below_drewN HW.out _⟩
          rw [decide_eq_false (fun h => he (by rw [h]))]
      · obtain rfl : k = l.length := by omega
        go_wp2
        go_ret
        refine ⟨congrArg (fun b => Ending.returned (.bool b)) ?_, HW.out⟩
        have h1 := HT.out
        rw [List.take_of_length_le (Nat.le_refl _), List.take_of_length_le (by omega)] at h1
        rw [decide_eq_true h1]
  · have hlm2 : ((l.length : Int) != m.length) = true := by simp; omega
    have HE := Aside0.mk (show decide (l = m) = false from decide_eq_false (fun h => hlm (by rw [h])))
    go_enter Try.func34, Try.ntmps34
    go_wp2
    go_ret
    rw [HE.out]
    exact ⟨rfl, Below.refl _ _⟩
end Go.Proofs.Ytbfogcckbhkciaa.Hand
