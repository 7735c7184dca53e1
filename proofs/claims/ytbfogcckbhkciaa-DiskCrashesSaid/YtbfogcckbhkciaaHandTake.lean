/- Parts of a row of bytes. -/
import Derived.Test.YtbfogcckbhkciaaHandLaw1
namespace Go.Proofs.Ytbfogcckbhkciaa.Hand
open Go.RowKit Go.Proofs.YtbfogcckbhkciaaW.PrintWords
/-- A row's first part, read as text. -/
theorem conv_take {w : World} {A : Option Addr} {c : Nat} {xs : List Int} (n : Nat) (hn : n ≤ xs.length) (h : ReadsInt w .u8 A xs.length xs) : (convert 23 9 (.slice A n c)).run Try.prog w = .ok (.string (strOfNums (xs.take n))) w := by
  have hl : (xs.take n).length = n := by rw [List.length_take]; omega
  have h2 : ReadsInt w .u8 A (xs.take n).length (xs.take n) := ⟨rfl, by rw [hl]; have := h.2.1; omega, fun h0 => by
    obtain ⟨ad, he, hc⟩ := h.2.2 (by rw [hl] at h0; omega)
    refine ⟨ad, he, fun j hj => ?_⟩
    rw [hc j (by omega)]
    congr 2
    rw [List.getD_eq_getElem?_getD, List.getD_eq_getElem?_getD, List.getElem?_take_of_lt (by omega)]⟩
  have := conv_reads (c := c) h2
  rwa [hl] at this
end Go.Proofs.Ytbfogcckbhkciaa.Hand
