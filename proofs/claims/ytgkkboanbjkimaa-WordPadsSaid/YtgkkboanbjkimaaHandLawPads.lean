/- WordPads, walked. -/
import Derived.Test.YtgkkboanbjkimaaHandLaw1
import Derived.Test.YtgkkboanbjkimaaHandOpen
import Derived.Test.YtgkkboanbjkimaaHandTake
import Derived.Deep.QuietTactic
import Derived.Deep.RegionHeld
namespace Go.Proofs.Ytgkkboanbjkimaa.Hand
open Go.RowKit Go.Proofs.YtgkkboanbjkimaaW.PrintWords

theorem padL_length (l : List Int) : (padL l).length = l.length + (8 - l.length % 8) % 8 := by simp [padL]
theorem padL_twice (l : List Int) : padL (padL l) = padL l := by
  have h : (8 - (padL l).length % 8) % 8 = 0 := by rw [padL_length]; omega
  rw [padL, h]
  simp
theorem pads_big (A : Option Addr) (c : Nat) (l : List Int) (w : World) (hl : l.length ≤ 9223372036854775807) (h : 20000 < l.length) :
    Calls Try.prog 5 #[.slice A l.length c] w fun e w' => e = .returned (.bool true) ∧ Below w.heap.size w w' := by
  go_enter Try.func5, Try.ntmps5
  go_wp2_with (go_at_call 10; (with_reducible refine (alive_calls _).mono ?_); rintro e wA ⟨rfl, hbA⟩; have HBA := Aside0.mk hbA; clear hbA)
  go_ret
  exact ⟨rfl, HBA.out⟩
theorem calls_at {P : Program} {f : FuncId} {args args' : Array Value} {w : World} {Q : Ending → World → Prop} (h : args = args') (hc : Calls P f args' w Q) : Calls P f args w Q := h ▸ hc
set_option maxHeartbeats 2000000 in
theorem pads_small (A : Option Addr) (c : Nat) (l : List Int) (w : World) (hr : ReadsInt w .u8 A l.length l) (h : l.length ≤ 20000) :
    Calls Try.prog 5 #[.slice A l.length c] w fun e w' => e = .returned (.bool true) ∧ Below w.heap.size w w' := by
  have HR := Aside0.mk hr
  clear hr
  obtain ⟨L, hL⟩ : ∃ L, L = (padL l).length := ⟨_, rfl⟩
  have h1 : L % 8 = 0 := by rw [hL, padL_length]; omega
  have h2 : l.length ≤ L := by rw [hL, padL_length]; omega
  have h3 : L ≤ l.length + 7 := by rw [hL, padL_length]; omega
  have HL := Aside0.mk hL
  have HT := Aside0.mk (show (padL l).take l.length = l by simp [padL])
  clear hL
  go_enter Try.func5, Try.ntmps5
  go_wp2_with (go_at_call 13; (with_reducible refine (pad_calls A c l _ HR.out (by omega)).mono ?_); rintro e w1 ⟨v1, rfl, hr1, hb1⟩; have HB1 := Aside0.mk hb1; obtain ⟨A1, c1, hv1, hc1, hR1⟩ := reads_own2 hr1; rw [← HL.out] at hv1 hc1; subst hv1; have htk := take_run A1 c1 L l.length h2 hc1 (by omega); obtain ⟨A2, hdr, hR2⟩ := drop_run A1 c1 (padL l) l.length (by rw [← HL.out]; exact h2) (by rw [← HL.out]; exact hc1); rw [← HL.out] at hdr hR2; have HR2 := Aside0.mk hR2; clear hR2; have HR1 := Aside0.mk hR1; have hconv1 : (convert 22 9 (.slice A1 l.length c1)).run Try.prog w1 = .ok (.string (strOfNums l)) w1 := (by have := conv_take (c := c1) l.length (by rw [← HL.out]; exact h2) hR1; rwa [HT.out] at this); have hconv2 := conv_reads (c := c) (HR.out.below hb1); clear hr1 hb1 hR1)
  have e1 : (L : Int).tmod 8 = 0 := by rw [Int.tmod_eq_emod_of_nonneg (by omega)]; omega
  have e4 : IntKind.i64.wrap ((l.length : Int) + 7) = l.length + 7 := IntWalk.i64_in _ (by omega)
  have e2 : decide (L < l.length) = false := decide_eq_false (by omega)
  have e3 : decide ((l.length : Int) + 7 < L) = false := decide_eq_false (by omega)
  have hq1 : ∀ n, (convert 22 9 (.slice A1 l.length c1)).run Try.prog (w1.drewN n) = .ok (.string (strOfNums l)) (w1.drewN n) := fun n => by have := conv_take (c := c1) l.length (by rw [← HL.out]; exact h2) (HR1.out.below (pw_below_drewN (Below.refl _ _) n)); rwa [HT.out] at this
  have hq2 : ∀ n, (convert 22 9 (.slice A l.length c)).run Try.prog (w1.drewN n) = .ok (.string (strOfNums l)) (w1.drewN n) := fun n => conv_reads (HR.out.below (pw_below_drewN HB1.out n))
  clear hconv1 hconv2
  go_quiet (fail)
  go_wp2
  obtain ⟨W1, hW1⟩ : ∃ W1, W1 = w1.drewN nq := ⟨_, rfl⟩
  have HBW := Aside0.mk (show Below w.heap.size w W1 by rw [hW1]; exact pw_below_drewN HB1.out nq)
  have HRX := Aside0.mk (show ReadsInt W1 .u8 A1 (padL l).length (padL l) by rw [hW1]; exact HR1.out.below (pw_below_drewN (Below.refl _ _) nq))
  have HRD := Aside0.mk (show ReadsInt W1 .u8 A2 (L - l.length) (List.replicate (L - l.length) 0) by
    have := HR2.out W1 (by have := HRX.out; rwa [← HL.out] at this)
    rw [show (padL l).drop l.length = List.replicate (L - l.length) 0 by rw [HL.out, padL_length]; simp [padL]] at this
    exact this)
  rw [← hW1]
  clear hW1 hq1 hq2 e1 e2 e3 e4
  go_loop [46] (fun i => ∃ k : Nat, k ≤ L - l.length ∧ i = .int .i64 k) (fun i => L - l.length - (intOf i).toNat)
  case atStart => exact ⟨0, Nat.zero_le _, rfl⟩
  case round =>
    obtain ⟨k, hk, rfl⟩ := hrel
    by_cases hlt : k < L - l.length
    · obtain ⟨ad, hA2, hc⟩ := HRD.out.at_ k (by omega) (by omega)
      subst hA2
      rw [Int.toNat_natCast, show rd (List.replicate (L - l.length) 0) k = 0 by simp only [rd, List.getD_eq_getElem?_getD, List.getElem?_replicate]; split <;> rfl] at hc
      have hlt2 : (k : Int) < ((L - l.length : Nat) : Int) := by omega
      go_wp2
      go_round
      case rel => exact ⟨k + 1, by omega, by go_num⟩
      case measure => (simp [intOf]) <;> omega
    · obtain rfl : k = L - l.length := by omega
      clear hlt
      go_wp2
      go_region_held (fun w' => Below w.heap.size w w' ∧ (convert 22 9 (.slice A1 L c1)).run Try.prog w' = .ok (.string (strOfNums (padL l))) w') (first | exact ⟨HBP.out, HQP.out⟩ | exact ⟨HBA.out, HQA.out⟩ | exact ⟨HBW.out.drew, by have := conv_reads (c := c1) (HRX.out.below (Below.refl _ W1).drew); rwa [← HL.out] at this⟩) (first | (go_at_call 10; (with_reducible refine (alive_calls _).mono ?_); rintro e wA ⟨rfl, hbA⟩; have HBA := Aside0.mk (HBW.out.drew.trans (hbA.mono HBW.out.size)); have HXA := Aside0.mk (HRX.out.below ((Below.refl _ W1).drew.trans hbA)); have HQA := Aside0.mk (show (convert 22 9 (.slice A1 L c1)).run Try.prog wA = .ok (.string (strOfNums (padL l))) wA by have := conv_reads (c := c1) HXA.out; rwa [← HL.out] at this); clear hbA) | (go_at_call 13; (refine (calls_at (by rw [HL.out]) (pad_calls A1 c1 (padL l) wA HXA.out (by rw [← HL.out]; omega))).mono ?_); rintro e wP ⟨vP, rfl, hrP, hbP⟩; have hconvP := conv_own hrP; have HBP := Aside0.mk (HBA.out.trans (hbP.mono HBA.out.size)); have HQP := Aside0.mk (show (convert 22 9 (.slice A1 L c1)).run Try.prog wP = .ok (.string (strOfNums (padL l))) wP by have := conv_reads (c := c1) (HXA.out.below hbP); rwa [← HL.out] at this); rw [padL_twice] at hconvP; clear hbP hrP))
      all_goals
        go_wp2
        go_ret
        exact ⟨rfl, HBP.out⟩
theorem wordPads_walk (A : Option Addr) (c : Nat) (l : List Int) (w : World) (hr : ReadsInt w .u8 A l.length l) (_hb : Bys l) (_y : l.length ≤ 140737488351232) :
    Calls Try.prog 5 #[.slice A l.length c] w fun e w' => e = .returned (.bool true) ∧ Below w.heap.size w w' := by
  by_cases h : 20000 < l.length
  · exact pads_big A c l w hr.2.1 h
  · exact pads_small A c l w hr (by omega)
end Go.Proofs.Ytgkkboanbjkimaa.Hand
