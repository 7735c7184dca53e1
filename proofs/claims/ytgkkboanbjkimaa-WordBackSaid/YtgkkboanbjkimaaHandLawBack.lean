/- WordBack, walked. -/
import Derived.Test.YtgkkboanbjkimaaHandSigns
import Derived.Test.YtgkkboanbjkimaaHandTake
import Derived.Test.YtgkkboanbjkimaaHandOpen
import Derived.Deep.QuietTactic
import Derived.Deep.RegionHeld
import Derived.Test.YtgkkboanbjkimaaHandLawWide
import Derived.Test.YtgkkboanbjkimaaHandLawOrder
namespace Go.Proofs.Ytgkkboanbjkimaa.Hand
open Go.RowKit Go.Proofs.YtgkkboanbjkimaaW.PrintWords

theorem back_big (A : Option Addr) (c : Nat) (l : List Int) (at_ n : Int) (w : World) (hl : l.length ≤ 9223372036854775807) (h : 20000 < l.length) :
    Calls Try.prog 8 #[.slice A l.length c, .int .i64 at_, .int .u64 n] w fun e w' => e = .returned (.bool true) ∧ Below w.heap.size w w' := by
  go_enter Try.func8, Try.ntmps8
  go_wp2_with (go_at_call 10; (with_reducible refine (alive_calls _).mono ?_); rintro e wA ⟨rfl, hbA⟩; have HBA := Aside0.mk hbA; clear hbA)
  go_ret
  exact ⟨rfl, HBA.out⟩
theorem leB_bys (n : Int) (k : Nat) : Bys (leB n k) := by
  induction k with
  | zero => intro x hx; cases hx
  | succ k ih =>
    intro x hx
    rw [leB, List.mem_append, List.mem_singleton] at hx
    rcases hx with hx | rfl
    · exact ih x hx
    · omega
theorem mod_split (n a : Int) (ha : 0 < a) : n % (a * 256) = a * (n / a % 256) + n % a := by
  have h1 := Int.mul_ediv_add_emod n a
  have h2 := Int.mul_ediv_add_emod (n / a) 256
  have h3 := Int.emod_nonneg n (Int.ne_of_gt ha)
  have h4 := Int.emod_lt_of_pos n ha
  have h5 : 0 ≤ n / a % 256 ∧ n / a % 256 ≤ 255 := by omega
  have h6 : a * (n / a % 256) ≤ a * 255 := Int.mul_le_mul_of_nonneg_left h5.2 (Int.le_of_lt ha)
  have h7 : 0 ≤ a * (n / a % 256) := Int.mul_nonneg (Int.le_of_lt ha) h5.1
  have e : n = (a * (n / a % 256) + n % a) + a * 256 * (n / a / 256) := by
    have : a * (n / a) = a * (256 * (n / a / 256) + n / a % 256) := by rw [h2]
    rw [Int.mul_add, ← Int.mul_assoc] at this
    omega
  conv => lhs; rw [e]
  rw [Int.add_mul_emod_self_left]
  exact Int.emod_eq_of_lt (by omega) (by omega)
theorem calls_at' {P : Program} {f : FuncId} {args args' : Array Value} {w : World} {Q : Ending → World → Prop} (h : args = args') (hc : Calls P f args' w Q) : Calls P f args w Q := h ▸ hc
theorem numL_leB (n : Int) (k : Nat) : numL (leB n k) = n % 2 ^ (8 * k) := by
  induction k with
  | zero => simp [leB, numL, Int.emod_one]
  | succ k ih =>
    rw [leB, numL_append, ih, leB_length, pow256, Nat.mul_add, Int.pow_add]
    simp only [numL, Int.mul_zero, Int.add_zero]
    have h2 : (0 : Int) < 2 ^ (8 * k) := Int.pow_pos (by omega)
    have h3 : (2 : Int) ^ (8 * 1) = 256 := by decide
    rw [h3, mod_split n _ h2, Int.add_comm]
theorem setL_facts {l : List Int} {a m : Nat} (n : Int) (h : a + m ≤ l.length) :
    (setL l a m n).length = l.length ∧ (setL l a m n).take a = l.take a ∧ (setL l a m n).drop (a + m) = l.drop (a + m) ∧ cut (setL l a m n) a m = leB n m := by
  have h1 : (l.take a).length = a := by rw [List.length_take]; omega
  have h2 := leB_length n m
  unfold setL cut
  simp only [Int.toNat_natCast]
  refine ⟨?_, ?_, ?_, ?_⟩
  · simp only [List.length_append, h1, h2, List.length_drop]
    omega
  · rw [List.take_append_of_le_length (by omega), List.take_of_length_le (by omega)]
  · rw [← List.append_assoc, List.drop_append_of_le_length (by rw [List.length_append]; omega), List.drop_of_length_le (by rw [List.length_append]; omega), List.nil_append]
  · rw [List.drop_append_of_le_length (by omega), List.drop_of_length_le (by omega), List.nil_append, List.take_append_of_le_length (by omega), List.take_of_length_le (by omega)]
theorem setL_bys {l : List Int} {a m : Int} {n : Int} (h : Bys l) : Bys (setL l a m n) := by
  intro x hx
  simp only [setL, List.mem_append] at hx
  rcases hx with hx | hx | hx
  · exact h x (List.mem_of_mem_take hx)
  · exact leB_bys n _ x hx
  · exact h x (List.mem_of_mem_drop hx)

theorem fits_lt {n : Int} {m : Nat} (h : fitsB n m = true) (h0 : 0 ≤ n) (h1 : n < 18446744073709551616) : n < 2 ^ (8 * m) := by
  have hp : (0 : Int) < 2 ^ (8 * m) := Int.pow_pos (by omega)
  have := Int.lt_ediv_add_one_mul_self n hp
  rw [fits_top rfl h h0 h1, Int.zero_add, Int.one_mul] at this
  exact this
set_option maxHeartbeats 8000000 in
theorem back_small (A : Option Addr) (c : Nat) (l : List Int) (at_ n : Int) (w : World) (hr : ReadsInt w .u8 A l.length l) (hb : Bys l) (hc : l.length ≤ c) (h0 : 0 ≤ n) (h1 : n < 18446744073709551616) (h : l.length ≤ 20000) :
    Calls Try.prog 8 #[.slice A l.length c, .int .i64 at_, .int .u64 n] w fun e w' => e = .returned (.bool true) ∧ Below w.heap.size w w' := by
  have HR := Aside0.mk hr
  have HBy := Aside0.mk hb
  have HN := Aside0.mk (And.intro h0 h1)
  clear hr hb h0 h1
  go_enter Try.func8, Try.ntmps8
  go_wp2
  go_loopw [19] (fun i wr => ∃ j : Nat, j ≤ 4 ∧ i = .int .i64 j ∧ Aside0 (HasWidths wr w.heap.size) ∧ Aside0 (Below w.heap.size w wr)) (fun i _ => 4 - (intOf i).toNat)
  case atStart => exact ⟨0, Nat.zero_le _, rfl, ⟨heap_alloc_new w _⟩, ⟨below_alloc (Below.refl _ _) _⟩⟩
  case round =>
    obtain ⟨j, hj, rfl, HW, HB⟩ := hrel
    by_cases h4 : j < 4
    · have hq := HW.out.cell' j h4
      generalize wideW j = q at hq
      cases hs : setB l at_ q n with
      | false =>
        have HS := Aside0.mk hs
        clear hs
        go_wp2_with (go_at_call 18; (with_reducible refine (set_no A c l at_ q n _ (HR.out.below HB.out) HS.out).mono ?_); rintro e w1 ⟨rfl, hb1⟩; have HB1 := Aside0.mk (HB.out.trans (hb1.mono HB.out.size)); have HW1 := Aside0.mk (HW.out.below hb1); clear hb1)
        go_roundw
        case rel => exact ⟨j + 1, by omega, by go_num, HW1, HB1⟩
        case measure => (simp [intOf]) <;> omega
      | true =>
        obtain ⟨hi, hf⟩ : (rightB q && insideB at_ q l.length) = true ∧ fitsB n q = true := by simpa only [setB, Bool.and_eq_true] using hs
        obtain ⟨a, m, rfl, rfl, hm0, hm8, ham⟩ := inside_of hi
        obtain ⟨hX1, hX2, hX3, hX4⟩ := setL_facts n ham
        have HS := Aside0.mk hs
        have HX := Aside0.mk (setL_bys (a := a) (m := m) (n := n) HBy.out)
        have HG := Aside0.mk (show gNum (setL l a m n) a m = n by
          rw [gNum, hX1, hi, if_pos rfl, Int.toNat_natCast, Int.toNat_natCast, hX4, numL_leB n]
          exact Int.emod_eq_of_lt HN.out.1 (fits_lt hf HN.out.1 HN.out.2))
        have hl0 : l.length ≤ 9223372036854775807 := HR.out.2.1
        have htb := take_run A c l.length a (by omega) hc hl0
        obtain ⟨Ad, hdb, hRd⟩ := drop_run A c l (a + m) ham hc
        have e4 : IntKind.i64.wrap ((a : Int) + m) = (a : Int) + m := IntWalk.i64_in _ (by omega)
        have e5 : ((a + m : Nat) : Int) = (a : Int) + m := by omega
        rw [e5] at hdb
        have HRd := Aside0.mk hRd
        clear hs hf hRd
        go_wp2_with (first | (go_at_call 18; (with_reducible refine (set_yes A c l a m n _ (HR.out.below HB.out) (by omega) HS.out).mono ?_); rintro e w1 ⟨v1, rfl, hr1, hb1⟩; have HB1 := Aside0.mk (HB.out.trans (hb1.mono HB.out.size)); have HW1 := Aside0.mk (HW.out.below hb1); obtain ⟨A1, c1, hv1, hc1, hR1⟩ := reads_own2 hr1; rw [hX1] at hv1 hc1; subst hv1; have HR1 := Aside0.mk hR1; clear hr1 hb1 hR1) | (go_at_call 11; (refine (calls_at' (by rw [hX1]) (get_any A1 c1 (setL l a m n) a m w1 HR1.out HX.out)).mono ?_); rw [HG.out]; rintro e w2 ⟨rfl, hb2⟩; have HB2 := Aside0.mk (HB1.out.trans (hb2.mono HB1.out.size)); have HW2 := Aside0.mk (HW1.out.below hb2); have HR2 := Aside0.mk (HR1.out.below hb2); clear hb2))
        have htx := take_run A1 c1 l.length a (by omega) hc1 hl0
        obtain ⟨Ax, hdx, hRx⟩ := drop_run A1 c1 (setL l a m n) (a + m) (by rw [hX1]; exact ham) (by rw [hX1]; exact hc1)
        rw [hX1, e5] at hdx
        have hq1 : ∀ k, (convert 22 9 (.slice A1 a c1)).run Try.prog (w2.drewN k) = .ok (.string (strOfNums (l.take a))) (w2.drewN k) := fun k => by
          have := conv_take (c := c1) a (by rw [hX1]; omega) (HR2.out.below (pw_below_drewN (Below.refl _ _) k))
          rwa [hX2] at this
        have hq2 : ∀ k, (convert 22 9 (.slice A a c)).run Try.prog (w2.drewN k) = .ok (.string (strOfNums (l.take a))) (w2.drewN k) := fun k => conv_take (c := c) a (by omega) (HR.out.below (pw_below_drewN HB2.out k))
        have hq3 : ∀ k, (convert 22 9 (.slice Ax (l.length - (a + m)) (c1 - (a + m)))).run Try.prog (w2.drewN k) = .ok (.string (strOfNums (l.drop (a + m)))) (w2.drewN k) := fun k => by
          have h1 := hRx _ (HR2.out.below (pw_below_drewN (Below.refl _ _) k))
          rw [hX1, hX3] at h1
          have := conv_reads (c := c1 - (a + m)) (xs := l.drop (a + m)) (by rw [List.length_drop]; exact h1)
          rwa [List.length_drop] at this
        have hq4 : ∀ k, (convert 22 9 (.slice Ad (l.length - (a + m)) (c - (a + m)))).run Try.prog (w2.drewN k) = .ok (.string (strOfNums (l.drop (a + m)))) (w2.drewN k) := fun k => by
          have h1 := HRd.out _ (HR.out.below (pw_below_drewN HB2.out k))
          have := conv_reads (c := c - (a + m)) (xs := l.drop (a + m)) (by rw [List.length_drop]; exact h1)
          rwa [List.length_drop] at this
        clear hX1 hX2 hX3 hX4 hRx e5
        go_quiet (fail)
        go_wp2
        go_roundw
        case rel => exact ⟨j + 1, by omega, by go_num, ⟨HW2.out.below (pw_below_drewN (Below.refl _ _) _)⟩, ⟨pw_below_drewN HB2.out _⟩⟩
        case measure => (simp [intOf]) <;> omega
    · obtain rfl : j = 4 := by omega
      go_wp2_with (go_at_call 10; (with_reducible refine (alive_calls _).mono ?_); rintro e wA ⟨rfl, hbA⟩; have HBA := Aside0.mk hbA; clear hbA)
      go_ret
      exact ⟨rfl, HB.out.trans (HBA.out.mono HB.out.size)⟩
theorem wordBack_walk (A : Option Addr) (c : Nat) (l : List Int) (at_ n : Int) (w : World) (hr : ReadsInt w .u8 A l.length l) (hb : Bys l) (_y : l.length ≤ 140737488351232) (hc : l.length ≤ c) (_h1 : (Lit.int .i64 at_).wf = true) (h2 : (Lit.int .u64 n).wf = true) :
    Calls Try.prog 8 #[.slice A l.length c, .int .i64 at_, .int .u64 n] w fun e w' => e = .returned (.bool true) ∧ Below w.heap.size w w' := by
  by_cases h : 20000 < l.length
  · exact back_big A c l at_ n w hr.2.1 h
  · exact back_small A c l at_ n w hr hb hc (wf_u64 h2).1 (wf_u64 h2).2 (by omega)
end Go.Proofs.Ytgkkboanbjkimaa.Hand
