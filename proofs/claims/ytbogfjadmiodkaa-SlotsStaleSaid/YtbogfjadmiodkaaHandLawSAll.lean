/- SlotsAll, walked. -/
import Derived.Test.YtbogfjadmiodkaaHandOps
namespace Go.Proofs.Ytbogfjadmiodkaa.Hand
open Go.RowKit Go.Proofs.YtbogfjadmiodkaaW.PrintWords
set_option linter.unusedVariables false
set_option linter.unusedSimpArgs false

def fewB (n m : Nat) : Bool := decide (n ≤ 700) && decide (m ≤ 80)
theorem few_calls (w : World) (A B : Option Addr) (n c m d : Nat) (hn : n ≤ 9223372036854775807) (hm : m ≤ 9223372036854775807) :
    Calls Try.prog 21 #[.slice A n c, .slice B m d] w fun e w' => e = .returned (.bool (fewB n m)) ∧ w = w' := by
  by_cases h1 : n ≤ 700
  · go_enter Try.func21, Try.ntmps21
    go_wp2
    go_ret
    exact ⟨by rw [fewB, decide_eq_true h1, Bool.true_and, show decide (m ≤ 80) = decide ((m : Int) ≤ 80) from decide_eq_decide.2 (by omega)]; rfl, rfl⟩
  · go_enter Try.func21, Try.ntmps21
    go_wp2
    go_ret
    exact ⟨by rw [fewB, decide_eq_false h1, Bool.false_and]; rfl, rfl⟩
theorem fewB_le {n m : Nat} (h : fewB n m = true) : n ≤ 700 ∧ m ≤ 80 := by simpa [fewB] using h
theorem slotsAll_walk (A : Option Addr) (c : Nat) (l : List Int) (B : Option Addr) (d : Nat) (os : List OpT) (w : World) (hr : ReadsInt w .u8 A l.length l) (hb : Bys l) (_y : l.length ≤ 140737488351232) (ho : OpK.C w B os.length os) (hwo : ∀ o ∈ os, WfOp o) :
    Calls Try.prog 5 #[.slice A l.length c, .slice B os.length d] w fun e w' => e = .returned (.bool true) ∧ Below w.heap.size w w' := by
  have hln : l.length ≤ 9223372036854775807 := by omega
  have hlm : os.length ≤ 9223372036854775807 := ho.2.1
  cases hf : fewB l.length os.length with
  | false =>
    have HF := Aside0.mk hf
    go_enter Try.func5, Try.ntmps5
    go_wp2_with (first | (go_at_call 21; (with_reducible refine (few_calls _ A B _ c _ d hln hlm).mono ?_); rw [HF.out]; rintro e wF ⟨rfl, rfl⟩) | (go_at_call 13; (with_reducible refine (sl_alive _).mono ?_); rintro e wA ⟨rfl, hbA⟩; have HBA := Aside0.mk hbA; clear hbA))
    go_ret
    exact ⟨rfl, HBA.out⟩
  | true =>
    have HF := Aside0.mk hf
    obtain ⟨h1, h2⟩ := fewB_le hf
    cases hd : decM l with
    | none =>
      have HM := Aside0.mk (made_none w A B c d l os.length hr hb (by omega) hd)
      clear hr hb ho hwo hf hd
      go_enter Try.func5, Try.ntmps5
      go_wp2_with (first | (go_at_call 21; (with_reducible refine (few_calls _ A B _ c _ d hln hlm).mono ?_); rw [HF.out]; rintro e wF ⟨rfl, rfl⟩) | (go_at_call 22; (with_reducible refine HM.out.mono ?_); rintro e w1 ⟨rfl, hb1⟩; have HB1 := Aside0.mk hb1; clear hb1) | (go_at_call 13; (with_reducible refine (sl_alive _).mono ?_); rintro e wA ⟨rfl, hbA⟩; have HBA := Aside0.mk hbA; clear hbA))
      go_ret
      exact ⟨rfl, bel_step HB1.out HBA.out⟩
    | some L =>
      have HM := Aside0.mk (made_some w A B c d l os L hr hb (by omega) hd ho hwo (by omega))
      clear hr hb ho hwo hf hd
      go_enter Try.func5, Try.ntmps5
      go_wp2_with (first | (go_at_call 21; (with_reducible refine (few_calls _ A B _ c _ d hln hlm).mono ?_); rw [HF.out]; rintro e wF ⟨rfl, rfl⟩) | (go_at_call 22; (with_reducible refine HM.out.mono ?_); rintro e w1 ⟨p, v, u, rfl, _, _, _, _, _, _, hb1⟩; have HB1 := Aside0.mk hb1; clear hb1) | (go_at_call 13; (with_reducible refine (sl_alive _).mono ?_); rintro e wA ⟨rfl, hbA⟩; have HBA := Aside0.mk hbA; clear hbA))
      go_ret
      exact ⟨rfl, bel_step HB1.out HBA.out⟩
end Go.Proofs.Ytbogfjadmiodkaa.Hand
