/- Slots are the document's. -/
import Derived.Test.YtbogfjadmiodkaaHandSlR5
import Derived.Test.YtbogfjadmiodkaaHandSlDoes
namespace Go.Proofs.Ytbogfjadmiodkaa.Hand
open Go.RowKit Go.Proofs.YtbogfjadmiodkaaW.PrintWords
set_option linter.unusedVariables false
set_option linter.unusedSimpArgs false

theorem atM_neg {L : List Sl} {k : Int} (h : k < 0) : atM L k = none := by rw [atM, if_neg (by omega)]
theorem atM_nat (L : List Sl) (k : Nat) : atM L (k : Int) = match L[k]? with | some x => if x.2.1 then some x.1 else none | none => none := by by_cases hk : k < L.length <;> rw [atM, if_pos (by omega), Int.toNat_natCast] <;> rfl
theorem atM_used {L : List Sl} {k : Nat} {x : Sl} (h : L[k]? = some x) (hu : x.2.1 = true) : atM L k = some x.1 := by rw [atM_nat, h]; simp [hu]
theorem atM_free {L : List Sl} {k : Nat} {x : Sl} (h : L[k]? = some x) (hu : x.2.1 = false) : atM L k = none := by rw [atM_nat, h]; simp [hu]
theorem atM_out {L : List Sl} {k : Nat} (h : L.length ≤ k) : atM L k = none := by rw [atM_nat, List.getElem?_eq_none h]
set_option maxRecDepth 20000 in
set_option maxHeartbeats 1000000 in
theorem stands_calls (w : World) (p : Nat) (v : Value) (A : Option Addr) (c : Nat) (L : List Sl) (h : HasSl w p v L) (hr : RdS w A L) (hl : L.length ≤ 256) :
    Calls Try.prog 25 #[.pointer (some ⟨p, 0, none⟩), .slice A L.length c] w fun e w' => e = .returned (.bool true) ∧ Below w.heap.size w w' := by
  have HS := Aside0.mk h
  have HR := Aside0.mk hr
  obtain ⟨u, hu⟩ : ∃ u : Nat, u = L.countP (·.2.1) := ⟨_, rfl⟩
  have HU := Aside0.mk hu.symm
  clear h hr hu
  go_enter Try.func25, Try.ntmps25
  go_wp2_with (first | (go_at_call 18; (with_reducible refine (len_calls _ p v L HS.out).mono ?_); rintro e w1 ⟨rfl, rfl⟩) | (go_at_call 19; (with_reducible refine (used_calls _ p v L HS.out (by omega)).mono ?_); rw [HU.out]; rintro e w1 ⟨rfl, hb1⟩; have HB1 := Aside0.mk hb1; clear hb1) | (go_at_call 33; (with_reducible refine (rUsed_calls _ A c L (HR.out.below HB1.out) (by omega)).mono ?_); rw [HU.out]; rintro e w1 ⟨rfl, rfl⟩))
  go_loopw [5] (fun i wr => ∃ k : Int, (-1 ≤ k ∧ k ≤ L.length + 1) ∧ i = .int .i64 k ∧ Aside0 (Below w.heap.size w wr)) (fun i _ => (L.length + 2 - intOf i).toNat)
  case atStart => exact ⟨-1, ⟨by omega, by omega⟩, by go_num, HB1⟩
  case round =>
    obtain ⟨k, ⟨hk0, hk1⟩, rfl, HB⟩ := hrel
    rcases (show k < 0 ∨ (0 ≤ k ∧ k < L.length) ∨ k = L.length ∨ L.length < k by omega) with hn | ⟨hj1, hj2⟩ | hn | hn
    · obtain rfl : k = -1 := by omega
      have HA := Aside0.mk (atV_none (L := L) (k := -1) (atM_neg (by decide)))
      clear hn hk0 hk1
      go_wp2_with (first | (go_at_call 32; (with_reducible refine (at_calls _ p v L _ (HS.out.move HB.out)).mono ?_); rw [HA.out]; rintro e w2 ⟨rfl, hb2⟩; have HB2 := Aside0.mk (bel_step HB.out hb2); clear hb2))
      exact ⟨⟨0, ⟨by omega, by omega⟩, rfl, ⟨below_alloc HB2.out _⟩⟩, by simp [intOf]; omega⟩
    · obtain ⟨k, rfl⟩ := Int.eq_ofNat_of_zero_le hj1
      obtain ⟨x, hx⟩ : ∃ x, L[k]? = some x := ⟨_, List.getElem?_eq_getElem (by omega)⟩
      have HX := Aside0.mk hx
      clear hx hj1 hk0 hk1
      cases hu : x.2.1 with
      | true =>
        have HUX := Aside0.mk hu
        have HA := Aside0.mk (atV_some (L := L) (atM_used HX.out hu))
        clear hu
        go_wp2_with (first | ((go_at_call 32; (with_reducible refine (at_calls _ p v L _ (HS.out.move HB.out)).mono ?_); rw [HA.out]; rintro e w2 ⟨rfl, hb2⟩; have HB2 := Aside0.mk (bel_step HB.out hb2); clear hb2); obtain ⟨g, o, hA, c0, c1, c2⟩ := (HR.out.below HB2.out).cells HX.out; subst hA; rw [HUX.out] at c1; have a0 := cell_alloc c0; have a1 := cell_alloc c1; have a2 := cell_alloc c2; clear c0 c1 c2) | (go_at_call 27; (with_reducible refine (get_good _ p v L k x (HS.out.move (below_alloc HB2.out _)) HX.out HUX.out).mono ?_); rintro e w3 ⟨rfl, hb3⟩; have HB3 := Aside0.mk (bel_step (below_alloc HB2.out _) hb3); have Xh := Aside0.mk ((Bx.new w2 k x.1).below hb3); have xh0 := Xh.out.c0; have xh1 := Xh.out.c1; obtain ⟨g', o', hA, c0, c1, c2⟩ := (HR.out.below HB3.out).cells HX.out; cases hA; clear hb3 c1))
        go_quiet (fail)
        go_wp2
        exact ⟨⟨(k : Int) + 1, ⟨by omega, by omega⟩, rfl, ⟨pw_below_drewN HB3.out _⟩⟩, by simp [intOf]; omega⟩
      | false =>
        have HUX := Aside0.mk hu
        have HA := Aside0.mk (atV_none (L := L) (atM_free HX.out hu))
        clear hu
        go_wp2_with (first | ((go_at_call 32; (with_reducible refine (at_calls _ p v L _ (HS.out.move HB.out)).mono ?_); rw [HA.out]; rintro e w2 ⟨rfl, hb2⟩; have HB2 := Aside0.mk (bel_step HB.out hb2); clear hb2); obtain ⟨g, o, hA, c0, c1, c2⟩ := (HR.out.below HB2.out).cells HX.out; subst hA; rw [HUX.out] at c1; have a0 := cell_alloc c0; have a1 := cell_alloc c1; have a2 := cell_alloc c2; clear c0 c1 c2))
        exact ⟨⟨(k : Int) + 1, ⟨by omega, by omega⟩, rfl, ⟨below_alloc HB2.out _⟩⟩, by simp [intOf]; omega⟩
    · subst hn
      have HA := Aside0.mk (atV_none (L := L) (atM_out (Nat.le_refl L.length)))
      clear hk0 hk1
      go_wp2_with (first | (go_at_call 32; (with_reducible refine (at_calls _ p v L _ (HS.out.move HB.out)).mono ?_); rw [HA.out]; rintro e w2 ⟨rfl, hb2⟩; have HB2 := Aside0.mk (bel_step HB.out hb2); clear hb2))
      exact ⟨⟨(L.length : Int) + 1, ⟨by omega, by omega⟩, rfl, ⟨below_alloc HB2.out _⟩⟩, by simp [intOf]; omega⟩
    · clear hk0 hk1
      go_wp2
      go_ret
      exact ⟨rfl, HB.out⟩
end Go.Proofs.Ytbogfjadmiodkaa.Hand
