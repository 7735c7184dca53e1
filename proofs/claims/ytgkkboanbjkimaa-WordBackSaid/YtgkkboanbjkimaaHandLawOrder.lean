/- WordOrder, walked. -/
import Derived.Test.YtgkkboanbjkimaaHandSigns
import Derived.Test.YtgkkboanbjkimaaHandLaw1
import Derived.Test.YtgkkboanbjkimaaHandOpen
import Derived.Deep.QuietTactic
import Derived.Deep.RegionHeld
namespace Go.Proofs.Ytgkkboanbjkimaa.Hand
open Go.RowKit Go.Proofs.YtgkkboanbjkimaaW.PrintWords

theorem leB_getD (n : Int) (m k : Nat) (h : k < m) : (leB n m).getD k 0 = n / 2 ^ (8 * k) % 256 := by
  rw [List.getD_eq_getElem?_getD]
  induction m with
  | zero => omega
  | succ m ih =>
    rw [leB]
    rcases Nat.lt_or_ge k m with h1 | h1
    · rw [List.getElem?_append_left (by rw [leB_length]; exact h1)]
      exact ih h1
    · obtain rfl : k = m := by omega
      rw [List.getElem?_append_right (by rw [leB_length]; exact Nat.le_refl _), leB_length, Nat.sub_self]
      rfl
theorem digit_up (a : Int) (k : Nat) : a / 2 ^ (8 * k) = a / 2 ^ (8 * (k + 1)) * 256 + a / 2 ^ (8 * k) % 256 := by
  have e : a / 2 ^ (8 * (k + 1)) = a / 2 ^ (8 * k) / 256 := by
    rw [Nat.mul_add, Int.pow_add, ← Int.ediv_ediv_of_nonneg (Int.le_of_lt (Int.pow_pos (by omega)))]
    rfl
  omega
theorem div_lt_of {a b : Int} {k : Nat} (h : a / 2 ^ (8 * k) < b / 2 ^ (8 * k)) : a < b := by
  apply Int.lt_of_not_ge
  intro hle
  have hp : (0 : Int) < 2 ^ (8 * k) := Int.pow_pos (by omega)
  have := Int.ediv_le_ediv hp hle
  omega
theorem digits_less {a b : Int} {k : Nat} (h : a / 2 ^ (8 * (k + 1)) = b / 2 ^ (8 * (k + 1))) (hne : a / 2 ^ (8 * k) % 256 ≠ b / 2 ^ (8 * k) % 256) :
    decide (a / 2 ^ (8 * k) % 256 < b / 2 ^ (8 * k) % 256) = decide (a < b) := by
  have ha := digit_up a k
  have hb := digit_up b k
  rw [Bool.eq_iff_iff, decide_eq_true_iff, decide_eq_true_iff]
  constructor
  · intro hl
    exact div_lt_of (k := k) (by omega)
  · intro hl
    apply Int.lt_of_not_ge
    intro hge
    have : b / 2 ^ (8 * k) < a / 2 ^ (8 * k) := by omega
    have := div_lt_of this
    omega
theorem fits_top {n width : Int} {m : Nat} (hm : width = m) (h : fitsB n width = true) (h0 : 0 ≤ n) (h1 : n < 18446744073709551616) : n / 2 ^ (8 * m) = 0 := by
  have hm2 : (2 : Int) ^ (8 * 8) = 18446744073709551616 := by decide
  subst hm
  simp only [fitsB, Bool.and_eq_true, Bool.or_eq_true, beq_iff_eq] at h
  rcases h.2 with h2 | h2
  · obtain rfl : m = 8 := by omega
    rw [hm2]
    exact Int.ediv_eq_zero_of_lt h0 h1
  · rw [show (8 * (m : Int)).toNat = 8 * m by omega] at h2
    exact h2
set_option maxHeartbeats 1000000 in
theorem order_no (a b width : Int) (w : World) (h : (fitsB a width && fitsB b width) = false) :
    Calls Try.prog 4 #[.int .u64 a, .int .u64 b, .int .i64 width] w fun e w' => e = .returned (.bool true) ∧ Below w.heap.size w w' := by
  cases h1 : fitsB a width <;> cases h2 : fitsB b width
  all_goals first | (rw [h1, h2] at h; exact absurd h (by decide)) | skip
  all_goals
    clear h
    go_enter Try.func4, Try.ntmps4
    go_wp2_with (first | (go_at_call 15; (with_reducible refine (put_new width a _).mono ?_); rintro e w1 ⟨v1, rfl, hr1, hb1⟩; have HB1 := Aside0.mk hb1; clear hr1 hb1) | (go_at_call 15; (with_reducible refine (put_new width b _).mono ?_); rintro e w2 ⟨v2, rfl, hr2, hb2⟩; have HB2 := Aside0.mk (HB1.out.trans (hb2.mono HB1.out.size)); clear hr2 hb2) | (go_at_call 10; (with_reducible refine (alive_calls _).mono ?_); rintro e wA ⟨rfl, hbA⟩; have HBA := Aside0.mk hbA; clear hbA))
    go_ret
    exact ⟨rfl, HB2.out.trans (HBA.out.mono HB2.out.size)⟩
set_option maxHeartbeats 1000000 in
theorem order_yes (a b : Int) (m : Nat) (w : World) (h1 : fitsB a m = true) (h2 : fitsB b m = true) (ha0 : 0 ≤ a) (ha1 : a < 18446744073709551616) (hb0 : 0 ≤ b) (hb1 : b < 18446744073709551616) :
    Calls Try.prog 4 #[.int .u64 a, .int .u64 b, .int .i64 m] w fun e w' => e = .returned (.bool true) ∧ Below w.heap.size w w' := by
  have L1 := leB_length a m
  have L2 := leB_length b m
  have P1 : putL a m = leB a m := by rw [putL, h1, if_pos rfl, Int.toNat_natCast]
  have P2 : putL b m = leB b m := by rw [putL, h2, if_pos rfl, Int.toNat_natCast]
  have T := Aside0.mk ((fits_top rfl h1 ha0 ha1).trans (fits_top rfl h2 hb0 hb1).symm)
  have hm8 : m ≤ 8 := by
    simp only [fitsB, Bool.and_eq_true] at h1
    have := width_of h1.1
    omega
  clear ha1 hb1
  go_enter Try.func4, Try.ntmps4
  go_wp2_with (first | (go_at_call 15; (with_reducible refine (put_new m a _).mono ?_); rintro e w1 ⟨v1, rfl, hr1, hb1⟩; have HB1 := Aside0.mk hb1; obtain ⟨A1, c1, hv1, hR1⟩ := reads_own hr1; rw [P1, L1] at hv1 hR1; subst hv1; have HR1 := Aside0.mk hR1; clear hr1 hb1 hR1) | (go_at_call 15; (with_reducible refine (put_new m b _).mono ?_); rintro e w2 ⟨v2, rfl, hr2, hb2⟩; have HB2 := Aside0.mk (HB1.out.trans (hb2.mono HB1.out.size)); obtain ⟨A2, c2, hv2, hR2⟩ := reads_own hr2; rw [P2, L2] at hv2 hR2; subst hv2; have HR2 := Aside0.mk hR2; have HR3 := Aside0.mk (HR1.out.below hb2); clear hr2 hb2 hR2))
  clear P1 P2 L1 L2
  go_loopw [11] (fun i wr => ∃ k : Nat, k ≤ m ∧ i = .int .i64 ((k : Int) - 1) ∧ Aside0 (a / 2 ^ (8 * k) = b / 2 ^ (8 * k)) ∧ Aside0 (Below w.heap.size w wr) ∧ Aside0 (ReadsInt wr .u8 A1 (leB a m).length (leB a m)) ∧ Aside0 (ReadsInt wr .u8 A2 (leB b m).length (leB b m))) (fun i _ => (intOf i + 1).toNat)
  case atStart => exact ⟨m, Nat.le_refl _, rfl, T, HB2, ⟨by rw [leB_length]; exact HR3.out⟩, ⟨by rw [leB_length]; exact HR2.out⟩⟩
  case round =>
    obtain ⟨k, hk, hi, TK, HB, HX, HY⟩ := hrel
    cases k with
    | zero =>
      rw [show ((0 : Nat) : Int) - 1 = -1 from rfl] at hi
      subst hi
      obtain rfl : a = b := by simpa using TK.out
      go_wp2_with (first | (go_at_call 10; (with_reducible refine (alive_calls _).mono ?_); rintro e wA ⟨rfl, hbA⟩; have HBA := Aside0.mk hbA; clear hbA))
      go_ret
      exact ⟨rfl, HB.out.trans (HBA.out.mono HB.out.size)⟩
    | succ k =>
      rw [show ((k + 1 : Nat) : Int) - 1 = (k : Int) by omega] at hi
      subst hi
      obtain ⟨x, hx, hcx⟩ := HX.out.at_ k (by omega) (by rw [leB_length]; omega)
      obtain ⟨y, hy, hcy⟩ := HY.out.at_ k (by omega) (by rw [leB_length]; omega)
      subst hx; subst hy
      have e1 : rd (leB a m) k = a / 2 ^ (8 * k) % 256 := leB_getD a m k (by omega)
      have e2 : rd (leB b m) k = b / 2 ^ (8 * k) % 256 := leB_getD b m k (by omega)
      rw [e1, Int.toNat_natCast] at hcx
      rw [e2, Int.toNat_natCast] at hcy
      clear e1 e2
      have hkm : (k : Int) < m := by omega
      have hkm' : (0 : Int) ≤ k := by omega
      by_cases he : a / 2 ^ (8 * k) % 256 = b / 2 ^ (8 * k) % 256
      · have TK' := Aside0.mk (show a / 2 ^ (8 * k) = b / 2 ^ (8 * k) by have h1 := digit_up a k; have h2 := digit_up b k; have := TK.out; omega)
        generalize hda : a / 2 ^ (8 * k) % 256 = da at hcx he
        rw [← he] at hcy
        clear he hda
        go_wp2
        go_quiet (fail)
        go_wp2
        go_roundw
        case rel => exact ⟨k, by omega, rfl, TK', ⟨pw_below_drewN HB.out _⟩, ⟨HX.out.below (pw_below_drewN (Below.refl _ _) _)⟩, ⟨HY.out.below (pw_below_drewN (Below.refl _ _) _)⟩⟩
        case measure => (simp [intOf]) <;> omega
      · have HL := Aside0.mk (digits_less TK.out he)
        generalize hda : a / 2 ^ (8 * k) % 256 = da at hcx he HL
        generalize hdb : b / 2 ^ (8 * k) % 256 = db at hcy he HL
        have hne : (da == db) = false := by simpa using he
        have hlx := World.block_lt_of_cell? wr _ hcx
        have hly := World.block_lt_of_cell? wr _ hcy
        have HCX := Aside0.mk (fun W (h : Below wr.heap.size wr W) => (h.cell hlx).trans hcx)
        have HCY := Aside0.mk (fun W (h : Below wr.heap.size wr W) => (h.cell hly).trans hcy)
        clear he hda hdb hlx hly
        go_wp2
        go_quiet (fail)
        go_wp2
        go_region_held (fun w' => Below wr.heap.size wr w' ∧ w'.cell? (x.add k) = some (.int .u8 da) ∧ w'.cell? (y.add k) = some (.int .u8 db)) (first | exact ⟨HBB.out, HCX.out _ HBB.out, HCY.out _ HBB.out⟩ | exact ⟨(pw_below_drewN (Below.refl wr.heap.size wr) nq).drew, HCX.out _ (pw_below_drewN (Below.refl wr.heap.size wr) nq).drew, HCY.out _ (pw_below_drewN (Below.refl wr.heap.size wr) nq).drew⟩) (first | (go_at_call 10; (with_reducible refine (alive_calls _).mono ?_); rintro e wA ⟨rfl, hbA⟩; have HBB := Aside0.mk ((pw_below_drewN (Below.refl wr.heap.size wr) nq).drew.trans hbA); clear hbA))
        all_goals
          go_wp2
          go_ret
          exact ⟨by rw [HL.out, beq_self_eq_true]; rfl, HB.out.trans (HBB.out.mono HB.out.size)⟩
theorem wordOrder_walk (a b width : Int) (w : World) (h : (Lit.int .u64 a).wf = true) (h1 : (Lit.int .u64 b).wf = true) (_h2 : (Lit.int .i64 width).wf = true) :
    Calls Try.prog 4 #[.int .u64 a, .int .u64 b, .int .i64 width] w fun e w' => e = .returned (.bool true) ∧ Below w.heap.size w w' := by
  cases hf : (fitsB a width && fitsB b width) with
  | false => exact order_no a b width w hf
  | true =>
    obtain ⟨f1, f2⟩ : fitsB a width = true ∧ fitsB b width = true := by simpa using hf
    have hw : 0 ≤ width := by
      have := f1
      simp only [fitsB, Bool.and_eq_true] at this
      rcases width_of this.1 with rfl | rfl | rfl | rfl <;> omega
    obtain ⟨m, rfl⟩ := Int.eq_ofNat_of_zero_le hw
    exact order_yes a b m w f1 f2 (wf_u64 h).1 (wf_u64 h).2 (wf_u64 h1).1 (wf_u64 h1).2
end Go.Proofs.Ytgkkboanbjkimaa.Hand
