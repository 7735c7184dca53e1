/- SlotsNew, walked. -/
import Derived.Test.YtbogfjadmiodkaaHandSlAlive
namespace Go.Proofs.Ytbogfjadmiodkaa.Hand
open Go.RowKit Go.Proofs.YtbogfjadmiodkaaW.PrintWords

theorem snew_no (many : Int) (w : World) (h : many < 0 ∨ 256 < many) :
    Calls Try.prog 4 #[.int .i64 many] w fun e w' => e = .returned (.bool true) ∧ Below w.heap.size w w' := by
  rcases h with h | h
  · go_enter Try.func4, Try.ntmps4
    go_wp2_with (first | (go_at_call 17; (with_reducible refine (new_no _ many (.inl h)).mono ?_); rintro e w1 ⟨rfl, rfl⟩) | (go_at_call 13; (with_reducible refine (sl_alive _).mono ?_); rintro e wA ⟨rfl, hbA⟩; have HBA := Aside0.mk hbA; clear hbA))
    go_ret
    exact ⟨rfl, HBA.out⟩
  · go_enter Try.func4, Try.ntmps4
    go_wp2_with (first | (go_at_call 17; (with_reducible refine (new_no _ many (.inr h)).mono ?_); rintro e w1 ⟨rfl, rfl⟩) | (go_at_call 13; (with_reducible refine (sl_alive _).mono ?_); rintro e wA ⟨rfl, hbA⟩; have HBA := Aside0.mk hbA; clear hbA))
    go_ret
    exact ⟨rfl, HBA.out⟩
theorem enc_zero (n : Nat) (hn : n ≤ 256) : (encM (List.replicate n (0, false, 0))).length = 2 + 3 * n := by
  have h0 : putL (n : Int) 2 = leB n 2 := putL_two (by omega) (by omega)
  have h1 : encOne (0, false, 0) = [0, 0, 0] := by decide
  have h2 : ((List.replicate n ((0, false, 0) : Sl)).flatMap encOne).length = 3 * n := by
    induction n with
    | zero => rfl
    | succ n ih =>
      rw [List.replicate_succ, List.flatMap_cons, List.length_append, ih (by omega) (putL_two (by omega) (by omega)), h1]
      simp
      omega
  rw [encM, List.length_append, h2, List.length_replicate, h0, leB_length]
theorem used_zero (n : Nat) : (List.replicate n ((0, false, 0) : Sl)).countP (·.2.1) = 0 := by
  rw [List.countP_eq_zero]
  intro x hx
  rw [List.eq_of_mem_replicate hx]
  simp
theorem snew_yes (n : Nat) (w : World) (hn : n ≤ 256) :
    Calls Try.prog 4 #[.int .i64 n] w fun e w' => e = .returned (.bool true) ∧ Below w.heap.size w w' := by
  have HL := Aside0.mk (enc_zero n hn)
  have HU := Aside0.mk (used_zero n)
  obtain ⟨L, hL⟩ : ∃ L, L = List.replicate n ((0, false, 0) : Sl) := ⟨_, rfl⟩
  have hll : L.length = n := by rw [hL, List.length_replicate]
  rw [← hL] at HL HU
  have HW : Aside0 (∀ x ∈ L, WfSl x) := ⟨by rw [hL]; intro x hx; rw [List.eq_of_mem_replicate hx]; simp [WfSl]⟩
  have HLE := Aside0.mk hL
  have HLL := Aside0.mk hll
  clear hL hll
  go_enter Try.func4, Try.ntmps4
  go_wp2_with (first | (go_at_call 17; (with_reducible refine (new_calls _ n hn).mono ?_); rintro e w1 ⟨p, v, rfl, hs1, hp1, hv1, hb1⟩; rw [← HLE.out] at hs1; have HS1 := Aside0.mk hs1; have HB1 := Aside0.mk hb1; clear hs1 hp1 hv1 hb1) | (go_at_call 13; (with_reducible refine (sl_alive _).mono ?_); rintro e wA ⟨rfl, hbA⟩; have HBA := Aside0.mk (bel_step HB1.out hbA); have HSA := Aside0.mk (HS1.out.move hbA); clear hbA) | (go_at_call 18; (with_reducible refine (len_calls _ p v L HSA.out).mono ?_); rw [HLL.out]; rintro e w2 ⟨rfl, rfl⟩) | (go_at_call 19; (with_reducible refine (used_calls _ p v L HSA.out (by rw [HLL.out]; omega)).mono ?_); rw [HU.out]; rintro e w3 ⟨rfl, hb⟩; have HB3 := Aside0.mk (bel_step HBA.out hb); have HS3 := Aside0.mk (HSA.out.move hb); clear hb) | (go_at_call 20; (with_reducible refine (encode_calls _ p v L HS3.out (by rw [HLL.out]; omega) HW.out).mono ?_); rintro e w4 ⟨u, rfl, hr, hb⟩; obtain ⟨AA, cA, rfl, hcA, hRA⟩ := reads_own2 hr; rw [HL.out]; have HB4 := Aside0.mk (bel_step HB3.out hb); clear hr hcA hRA hb))
  go_ret
  exact ⟨rfl, HB4.out⟩
theorem slotsNew_walk (many : Int) (w : World) (_h : (Lit.int .i64 many).wf = true) :
    Calls Try.prog 4 #[.int .i64 many] w fun e w' => e = .returned (.bool true) ∧ Below w.heap.size w w' := by
  by_cases h : many < 0 ∨ 256 < many
  · exact snew_no many w h
  · obtain ⟨n, rfl⟩ := Int.eq_ofNat_of_zero_le (show 0 ≤ many by omega)
    exact snew_yes n w (by omega)
end Go.Proofs.Ytbogfjadmiodkaa.Hand
