/- Marks of a disk: walks. -/
import Derived.Test.YtbfogcckbhkciaaHandDk1
import Derived.Test.YtbfogcckbhkciaaHandPmAlive
namespace Go.Proofs.Ytbfogcckbhkciaa.Hand
open Go.RowKit Go.Proofs.YtbfogcckbhkciaaW.PrintWords
set_option linter.unusedVariables false
set_option linter.unusedSimpArgs false
theorem own_rebase {w : World} {base base' : Nat} {e : TypeId} {size n : Nat} {v : Value} {xs : List Value} (h : w.ownsRow base e size v n xs) (hb : ∀ k, v.ownBlock = some k → base' ≤ k) : w.ownsRow base' e size v n xs := by
  obtain ⟨h1, h2⟩ := h
  refine ⟨h1, ?_⟩
  rcases h2 with h2 | ⟨g, cap, cur, rfl, hg, r⟩
  · exact .inl h2
  · exact .inr ⟨g, cap, cur, rfl, hb g rfl, r⟩
theorem R_rebase {w w0 : World} {ok : Nat → Prop} {v : Value} {xs : List Int} {q : IntKind} {e : Nat} {b : Nat} (h : Kd.R (Kd.int q) e w0 b (New w) v xs) : Kd.R (Kd.int q) e w0 w.heap.size (fun _ => True) v xs :=
  Kd.R_of_own (own_rebase (Kd.own_of_R h) (fun k hk => h.1 k hk)) (fun _ _ => trivial)
theorem mark_no (gen which : Int) (w : World) (h : ¬ MarkOk gen which) :
    Calls Try.prog 52 #[.int .i64 gen, .int .i64 which] w fun e w' => e = .returned (.int .u64 (markN gen which)) ∧ Below w.heap.size w w' := by
  have HN := Aside0.mk (show markN gen which = 0 from if_neg h)
  rcases (show gen < 1 ∨ (¬ gen < 1 ∧ 4294967295 < gen) ∨ (¬ gen < 1 ∧ ¬ 4294967295 < gen ∧ which < 0) ∨ (¬ gen < 1 ∧ ¬ 4294967295 < gen ∧ ¬ which < 0 ∧ 1 < which) by unfold MarkOk at h; omega) with h1 | ⟨h0, h1⟩ | ⟨h0, h1, h2⟩ | ⟨h0, h1, h2, h3⟩
  all_goals
    clear h
    go_enter Try.func52, Try.ntmps52
    go_wp2
    go_ret
    rw [HN.out]
    exact ⟨rfl, Below.refl _ _⟩
theorem gNum8 {l : List Int} (h : l.length = 8) : gNum l 0 8 = numL l := by
  rw [gNum, if_pos (by rw [h]; rfl), cut]
  simp [List.take_of_length_le (Nat.le_of_eq h)]
theorem get8 (A : Option Addr) (c : Nat) (l : List Int) (w : World) (hl : l.length = 8) (hr : ReadsInt w .u8 A l.length l) (hb : Bys l) :
    Calls Try.prog 94 #[.slice A l.length c, .int .i64 0, .int .i64 8] w fun e w' => e = .returned (.tuple #[.int .u64 (numL l), .bool true]) ∧ Below w.heap.size w w' := by
  refine (get_any A c l 0 8 w hr hb).mono fun e w' he => ⟨?_, he.2⟩
  rw [he.1, gNum8 hl, hl]
  rfl
theorem seal6 (A : Option Addr) (c : Nat) (gen which : Int) (w : World) (hr : ReadsInt w .u8 A (markH gen which).length (markH gen which)) :
    Calls Try.prog 93 #[.slice A (markH gen which).length c] w fun e w' => ∃ v : Value, e = .returned v ∧ Kd.R (Kd.int .u8) 5 w' 0 (New w) v (markL gen which) ∧ Below w.heap.size w w' :=
  seal_calls A c (markH gen which) w hr (by rw [markH_length]; omega)
set_option maxRecDepth 100000 in
theorem mark_yes (gen which : Int) (w : World) (h : MarkOk gen which) :
    Calls Try.prog 52 #[.int .i64 gen, .int .i64 which] w fun e w' => e = .returned (.int .u64 (markN gen which)) ∧ Below w.heap.size w w' := by
  have HN := Aside0.mk (show markN gen which = numL (markL gen which) from if_pos h)
  have HMB := Aside0.mk (markL_bys h)
  obtain ⟨h1, h2, h3, h4⟩ := h
  have hfit : fitsB gen 4 = true := by rw [fits_one _ 4 (by omega) (by omega)]; simp [rfitsB, rightB, topN]; omega
  have HF := Aside0.mk hfit
  have HP := Aside0.mk (show putL gen 4 = leB gen 4 by rw [putL, hfit]; rfl)
  have e1 : IntKind.u64.wrap gen = gen := u64_wrap_of (by omega) (by omega)
  have e2 : IntKind.u8.wrap which = which := by simp [IntKind.wrap, IntKind.signed, IntKind.bits]; omega
  clear hfit
  go_enter Try.func52, Try.ntmps52
  go_wp2_with (first | (go_at_call 92; ((with_reducible refine (put_new 4 gen w).mono ?_); rw [HF.out, HP.out]; rintro e w1 ⟨v1, rfl, hr1, hb1⟩; have HR1 := Aside0.mk (Kd.R_below (R_rebase (ok := New w) hr1) (below_alloc (Below.refl w1.heap.size w1) (.cells #[.int .u8 which, .int .u8 0] 5))); have HB1 := Aside0.mk hb1; clear hr1 hb1)) | ((with_reducible refine gate_bi (b := .append) (xs := #[.tmp 29, .tmp 32]) rfl ?_); go_must (refine Kd.R_append_row (Value.int .u8) 0 (h1 := fun _ => rfl) (w0 := w) w.heap.size rfl (.tmp 29) (.tmp 32) 23 5 (.int .u8 0) 1 rfl Try.underlying23 info_u8 rfl (by decide) v1 (leB gen 4) [which, 0] (some ⟨w1.heap.size, 0, none⟩) 2 2 (fun _ => True) rfl rfl (fun _ _ => trivial) HR1.out (Kd.C_of_reads (d := (0 : Int)) (h1 := fun _ => rfl) (lit_reads (l := [which, 0]) (by simp))) (below_alloc HB1.out _) (Nat.le_trans HB1.out.size (by simp)) (by simp [leB_length]) ?_); intro v2 w2 ho2 hb2 hg2 hat2; have HO2 := Aside0.mk (show Kd.R (Kd.int .u8) 5 w2 w.heap.size (fun _ => True) v2 (markH gen which) from ho2); have HB2 := Aside0.mk hb2; obtain ⟨A2, c2, rfl, hc2, hR2⟩ := reads_own2 HO2.out; have HR2 := Aside0.mk hR2; clear hc2 hR2; clear ho2 hb2 hg2 hat2) | (go_at_call 93; ((with_reducible refine (seal6 A2 c2 gen which w2 HR2.out).mono ?_); rintro e w3 ⟨v3, rfl, hr3, hb3⟩; have HB3 := Aside0.mk (bel_step HB2.out hb3); obtain ⟨A3, c3, rfl, _, hR3⟩ := reads_own2 hr3; have HR3 := Aside0.mk hR3; clear hr3 hb3 hR3)) | (go_at_call 94; ((with_reducible refine (get8 A3 c3 (markL gen which) w3 (markL_length gen which) HR3.out HMB.out).mono ?_); rintro e w4 ⟨rfl, hb4⟩; have HB4 := Aside0.mk (bel_step HB3.out hb4); clear hb4)))
  go_ret
  rw [HN.out]
  exact ⟨rfl, HB4.out⟩
theorem mark_calls (gen which : Int) (w : World) : Calls Try.prog 52 #[.int .i64 gen, .int .i64 which] w fun e w' => e = .returned (.int .u64 (markN gen which)) ∧ Below w.heap.size w w' := by
  by_cases h : MarkOk gen which
  · exact mark_yes gen which w h
  · exact mark_no gen which w h
theorem and32 {n : Int} (h0 : 0 ≤ n) (h1 : n < 18446744073709551616) : bits .and .u64 n 4294967295 = n % 4294967296 := by
  obtain ⟨n, rfl⟩ := Int.eq_ofNat_of_zero_le h0
  rw [show (4294967295 : Int) = ((4294967295 : Nat) : Int) from rfl, bits_and_u64_nat n 4294967295 (by omega) (by omega)]
  rw [show (4294967295 : Nat) = 2 ^ 32 - 1 from rfl, Nat.and_two_pow_sub_one_eq_mod]
  omega
theorem and8 {n : Int} (h0 : 0 ≤ n) (h1 : n < 18446744073709551616) : bits .and .u64 n 255 = n % 256 := by
  obtain ⟨n, rfl⟩ := Int.eq_ofNat_of_zero_le h0
  rw [show (255 : Int) = ((255 : Nat) : Int) from rfl, bits_and_u64_nat n 255 (by omega) (by omega)]
  rw [show (255 : Nat) = 2 ^ 8 - 1 from rfl, Nat.and_two_pow_sub_one_eq_mod]
  omega
set_option maxRecDepth 100000 in
theorem mread_calls (n : Int) (w : World) (h0 : 0 ≤ n) (h1 : n < 18446744073709551616) :
    Calls Try.prog 53 #[.int .u64 n] w fun e w' => e = .returned (.tuple #[.int .i64 (readM n).1, .int .i64 (readM n).2.1, .bool (readM n).2.2]) ∧ Below w.heap.size w w' := by
  have a1 := and32 h0 h1
  have a2 := and8 (n := n / 4294967296) (by omega) (by omega)
  have a3 : IntKind.i64.wrap (n % 4294967296) = n % 4294967296 := IntWalk.i64_in _ (by omega)
  have a4 : IntKind.i64.wrap (n / 4294967296 % 256) = n / 4294967296 % 256 := IntWalk.i64_in _ (by omega)
  obtain ⟨g, hg⟩ : ∃ g, g = n % 4294967296 := ⟨_, rfl⟩
  obtain ⟨k, hk⟩ : ∃ k, k = n / 4294967296 % 256 := ⟨_, rfl⟩
  by_cases hz : n = 0
  · have HN := Aside0.mk (show readM n = (0, 0, false) by rw [readM, if_pos (.inl hz)])
    have hz2 : (n == 0) = true := by simpa using hz
    rw [HN.out]
    rw [← hg] at a1 a3
    rw [← hk] at a2 a4
    clear hg hk h0 h1 hz
    go_enter Try.func53, Try.ntmps53
    go_wp2
    go_ret3
    exact ⟨rfl, Below.refl _ _⟩
  · have hz2 : (n == 0) = false := by simpa using hz
    by_cases hm : markN g k = n
    · have HN := Aside0.mk (show readM n = (g, k, true) by rw [readM, ← hg, ← hk, if_neg (by rw [hm]; simpa using hz)])
      have HM := Aside0.mk hm
      rw [HN.out]
      rw [← hg] at a1 a3
      rw [← hk] at a2 a4
      clear hg hk h0 h1 hz hm
      go_enter Try.func53, Try.ntmps53
      go_wp2_with (go_at_call 52; ((with_reducible refine (mark_calls g k w).mono ?_); rw [HM.out]; rintro e w1 ⟨rfl, hb⟩; have HB1 := Aside0.mk hb; clear hb))
      go_ret3
      exact ⟨rfl, HB1.out⟩
    · have HN := Aside0.mk (show readM n = (0, 0, false) by rw [readM, ← hg, ← hk, if_pos (.inr hm)])
      have hm2 : (markN g k != n) = true := by simpa using hm
      rw [HN.out]
      rw [← hg] at a1 a3
      rw [← hk] at a2 a4
      clear hg hk h0 h1 hz hm
      go_enter Try.func53, Try.ntmps53
      go_wp2_with (go_at_call 52; ((with_reducible refine (mark_calls g k w).mono ?_); rintro e w1 ⟨rfl, hb⟩; have HB1 := Aside0.mk hb; clear hb))
      go_ret3
      exact ⟨rfl, HB1.out⟩
end Go.Proofs.Ytbfogcckbhkciaa.Hand
