/- DiskTorn: the walk, and why. -/
import Derived.Test.YtbfogcckbhkciaaHandDkAlive
namespace Go.Proofs.Ytbfogcckbhkciaa.Hand
open Go.RowKit Go.Maps Go.Proofs.YtbfogcckbhkciaaW.PrintWords
set_option linter.unusedVariables false
set_option linter.unusedSimpArgs false
theorem crc_set_neq {l : List Int} {a : Nat} {z : Int} (ha : a < l.length) (hl : Bys l) (hz : 0 ≤ z ∧ z < 256) (hne : z ≠ rd l a) : crcI (l.set a z) ≠ crcI l := by
  intro h
  have hx : l = l.take a ++ rd l a :: l.drop (a + 1) := by
    have h1 := List.take_append_drop (a + 1) l
    rw [take_rd ha, List.append_assoc] at h1
    exact h1.symm
  have hs : l.set a z = l.take a ++ z :: l.drop (a + 1) := by rw [List.set_eq_take_append_cons_drop, if_pos ha]
  have h2 := tI_inj h
  rw [hs] at h2
  conv at h2 => rhs; rw [hx]
  rw [crcV_append, crcV_append] at h2
  have h3 : crcV (byteV (crcV 0#16 (l.take a)) z) (l.drop (a + 1)) = crcV (byteV (crcV 0#16 (l.take a)) (rd l a)) (l.drop (a + 1)) := h2
  exact hne (byteV_byte hz (rd_bys hl a) (crcV_inj _ h3))
theorem leB_two_injq {m n : Int} (hm : 0 ≤ m ∧ m < 65536) (hn : 0 ≤ n ∧ n < 65536) (h : leB m 2 = leB n 2) : m = n := by
  simp [leB] at h
  omega
theorem seal_set_noq {l : List Int} {a : Nat} {z : Int} (ha : a < l.length) (hl : Bys l) (hz : 0 ≤ z ∧ z < 256) (hne : z ≠ rd l a) : openB ((sealL l).set a z) = false ∧ ((sealL l).set a z).take l.length = l.set a z := by
  have hs : (sealL l).set a z = l.set a z ++ leB (crcI l) 2 := by rw [sealL, List.set_append_left _ _ ha]
  have ht : (l.set a z ++ leB (crcI l) 2).take l.length = l.set a z := by
    rw [List.take_append_of_le_length (by simp), List.take_of_length_le (by simp)]
  refine ⟨?_, by rw [hs, ht]⟩
  rw [openB, hs]
  have e : (l.set a z ++ leB (crcI l) 2).length - 2 = l.length := by simp [leB_length]
  rw [e, ht]
  have hno : ¬ sealL (l.set a z) = l.set a z ++ leB (crcI l) 2 := by
    intro h
    rw [sealL] at h
    exact crc_set_neq ha hl hz hne (leB_two_injq (tI_lt _) (tI_lt _) (List.append_cancel_left h))
  rw [decide_eq_false hno, Bool.and_false]

theorem leB_get (n : Int) (k j : Nat) (h : j < k) : (leB n k)[j]? = some (n / 2 ^ (8 * j) % 256) := by
  induction k with
  | zero => omega
  | succ k ih =>
    rw [leB]
    by_cases hj : j < k
    · rw [List.getElem?_append_left (by rw [leB_length]; exact hj)]
      exact ih hj
    · obtain rfl : j = k := by omega
      rw [List.getElem?_append_right (by rw [leB_length]; exact Nat.le_refl _), leB_length, Nat.sub_self]
      rfl
theorem byte_same {N a j : Nat} (h : j ≠ a / 8) : (N ^^^ 2 ^ a) / 2 ^ (8 * j) % 256 = N / 2 ^ (8 * j) % 256 := by
  apply Nat.eq_of_testBit_eq
  intro t
  rw [show (256 : Nat) = 2 ^ 8 from rfl, Nat.testBit_mod_two_pow, Nat.testBit_mod_two_pow, Nat.testBit_div_two_pow, Nat.testBit_div_two_pow, Nat.testBit_xor, Nat.testBit_two_pow]
  by_cases ht : t < 8
  · rw [decide_eq_false (show ¬ a = t + 8 * j by omega)]
    simp
  · simp [ht]
theorem byte_turn {N a : Nat} : (N ^^^ 2 ^ a) / 2 ^ (8 * (a / 8)) % 256 ≠ N / 2 ^ (8 * (a / 8)) % 256 := by
  intro h
  have h2 : ((N ^^^ 2 ^ a) / 2 ^ (8 * (a / 8)) % 256).testBit (a % 8) = (N / 2 ^ (8 * (a / 8)) % 256).testBit (a % 8) := by rw [h]
  rw [show (256 : Nat) = 2 ^ 8 from rfl, Nat.testBit_mod_two_pow, Nat.testBit_mod_two_pow, Nat.testBit_div_two_pow, Nat.testBit_div_two_pow, Nat.testBit_xor, Nat.testBit_two_pow] at h2
  rw [show a % 8 + 8 * (a / 8) = a by omega, decide_eq_true (Nat.mod_lt a (by decide))] at h2
  simp at h2
theorem mark_get {g k : Int} (h : MarkOk g k) {N : Nat} (hN : markN g k = (N : Int)) {j : Nat} (hj : j < 8) : (markL g k)[j]? = some ((N / 2 ^ (8 * j) % 256 : Nat) : Int) := by
  have hl : markL g k = leB (N : Int) 8 := by
    refine numL_inj (markL_bys h) (leB_bysq _ _) (by rw [leB_length, markL_length]) ?_
    have hr := markN_range g k
    rw [numL_leBq, ← hN, show (2 : Int) ^ (8 * 8) = 18446744073709551616 from by decide, Int.emod_eq_of_lt hr.1 hr.2, markN, if_pos h]
  rw [hl, leB_get _ _ _ hj]
  congr 1
theorem openB_seal (l : List Int) : openB (sealL l) = true := by
  have h1 : (sealL l).length - 2 = l.length := by rw [sealL_length]; omega
  have h2 : (sealL l).take l.length = l := by rw [sealL]; simp
  rw [openB, h1, h2, sealL_length, decide_eq_true (by omega), decide_eq_true rfl]
  rfl
theorem torn_no {g k : Int} (h : MarkOk g k) {a N : Nat} (ha : a < 64) (hN : markN g k = (N : Int)) : readM ((N ^^^ 2 ^ a : Nat) : Int) = (0, 0, false) := by
  rcases readM_cases ((N ^^^ 2 ^ a : Nat) : Int) with h0 | ⟨g', k', h', e', _⟩
  · exact h0
  · exfalso
    have hg := fun j (hj : j < 8) => mark_get h hN hj
    have hg' := fun j (hj : j < 8) => mark_get h' e'.symm hj
    have hH := markH_length g k
    have hH' := markH_length g' k'
    have hL := markL_length g k
    have hL' := markL_length g' k'
    have hne : (markL g' k')[a / 8]? ≠ (markL g k)[a / 8]? := by
      rw [hg _ (by omega), hg' _ (by omega)]
      intro e
      have := Option.some.inj e
      exact byte_turn (N := N) (a := a) (by exact_mod_cast this)
    have hsame : ∀ j, j ≠ a / 8 → (markL g' k')[j]? = (markL g k)[j]? := by
      intro j hj
      by_cases h8 : j < 8
      · rw [hg _ h8, hg' _ h8, byte_same hj]
      · rw [List.getElem?_eq_none (by omega), List.getElem?_eq_none (by omega)]
    by_cases h6 : a / 8 < 6
    · obtain ⟨z, hz⟩ : ∃ z, (markL g' k')[a / 8]? = some z := ⟨_, hg' _ (by omega)⟩
      have hset : markL g' k' = (sealL (markH g k)).set (a / 8) z := by
        apply List.ext_getElem?
        intro j
        by_cases hj : j = a / 8
        · subst hj
          rw [hz, List.getElem?_set_self (by rw [sealL_length, hH]; omega)]
        · rw [hsame j hj, List.getElem?_set_ne (fun e => hj e.symm)]
          rfl
      have hzb : 0 ≤ z ∧ z < 256 := markL_bys h' z (List.mem_of_getElem? hz)
      have hnz : z ≠ rd (markH g k) ((a / 8 : Nat) : Int) := by
        intro e
        apply hne
        rw [hz, e]
        have : (markL g k)[a / 8]? = (markH g k)[a / 8]? := by rw [markL, sealL, List.getElem?_append_left (by rw [hH]; exact h6)]
        rw [this, rd, Int.toNat_natCast, List.getD_eq_getElem?_getD]
        simp [hH, h6]
      have hno := (seal_set_noq (l := markH g k) (a := a / 8) (z := z) (by rw [hH]; exact h6) (markH_bys h) hzb hnz).1
      rw [← hset, markL, openB_seal] at hno
      cases hno
    · have hHH : markH g' k' = markH g k := by
        have e1 : (markL g' k').take 6 = markH g' k' := by rw [markL, sealL, ← hH']; simp
        have e2 : (markL g k).take 6 = markH g k := by rw [markL, sealL, ← hH]; simp
        rw [← e1, ← e2]
        apply List.ext_getElem?
        intro j
        by_cases hj : j < 6
        · rw [List.getElem?_take_of_lt hj, List.getElem?_take_of_lt hj, hsame j (by omega)]
        · rw [List.getElem?_take_eq_none (by omega), List.getElem?_take_eq_none (by omega)]
      apply hne
      rw [markL, markL, hHH]
set_option maxRecDepth 100000 in
theorem torn_bit (gen which : Int) (a : Nat) (w : World) (ha : a < 64) (hn : markN gen which ≠ 0) :
    Calls Try.prog 15 #[.int .i64 gen, .int .i64 which, .int .i64 (a : Int)] w fun e w' => e = .returned (.bool true) ∧ Below w.heap.size w w' := by
  have HM := Aside0.mk (mark_calls gen which w)
  have hr := markN_range gen which
  have hok : MarkOk gen which := Classical.byContradiction fun h => hn (if_neg h)
  obtain ⟨n, hnn⟩ : ∃ n : Nat, (n : Int) = markN gen which := ⟨(markN gen which).toNat, Int.toNat_of_nonneg hr.1⟩
  have hp : 2 ^ a < 18446744073709551616 := Nat.pow_lt_pow_right (by decide) (show a < 64 from ha)
  have hx : bits .xor .u64 (n : Int) (IntKind.u64.wrap (2 ^ a)) = ((n ^^^ 2 ^ a : Nat) : Int) := by
    rw [show (2 : Int) ^ a = ((2 ^ a : Nat) : Int) by rw [Int.natCast_pow]; rfl]
    generalize 2 ^ a = y at hp
    rw [u64_wrap_of (by omega) (by omega), bits_xor_u64_nat _ _ (by omega) hp]
  have hxl : n ^^^ 2 ^ a < 18446744073709551616 := Nat.xor_lt_two_pow (n := 64) (by omega) hp
  have hno := torn_no hok ha hnn.symm
  have HR := Aside0.mk (fun (w : World) => mread_calls ((n ^^^ 2 ^ a : Nat) : Int) w (by omega) (by omega))
  rw [hno] at HR
  rw [← hnn] at HM hr hn
  have hn2 : ((n : Int) == 0) = false := by rw [beq_eq_false_iff_ne]; exact hn
  have hn3 : (n == 0) = false := by rw [beq_eq_false_iff_ne]; intro e; exact hn (by rw [e]; rfl)
  have h1 : decide ((a : Int) < 0) = false := by simp
  have h2 : decide (63 < (a : Int)) = false := decide_eq_false (by omega)
  generalize n ^^^ 2 ^ a = x at hx HR
  clear hn hnn hno hok hxl hp
  go_enter Try.func15, Try.ntmps15
  go_wp2_with (first | (go_at_call 52; ((with_reducible refine HM.out.mono ?_); rintro e w1 ⟨rfl, hb⟩; have HB1 := Aside0.mk hb; clear hb)) | (go_at_call 53; ((with_reducible refine (HR.out _).mono ?_); rintro e w2 ⟨rfl, hb⟩; have HB2 := Aside0.mk (bel_step HB1.out hb); clear hb)) | (go_at_call 48; ((with_reducible refine (dk_alive _).mono ?_); rintro e w3 ⟨rfl, hb⟩; have HB3 := Aside0.mk (bel_step HB2.out hb); clear hb)))
  all_goals
    go_ret
    exact ⟨rfl, HB3.out⟩
set_option maxRecDepth 100000 in
theorem torn_not (gen which a : Int) (w : World) (h : markN gen which = 0 ∨ a < 0 ∨ 63 < a) :
    Calls Try.prog 15 #[.int .i64 gen, .int .i64 which, .int .i64 a] w fun e w' => e = .returned (.bool true) ∧ Below w.heap.size w w' := by
  have HM := Aside0.mk (mark_calls gen which w)
  obtain ⟨n, hnn⟩ : ∃ n, n = markN gen which := ⟨_, rfl⟩
  rw [← hnn] at HM h
  clear hnn
  rcases (show n = 0 ∨ (n ≠ 0 ∧ a < 0) ∨ (n ≠ 0 ∧ ¬ a < 0 ∧ 63 < a) by omega) with h1 | ⟨h1, h2⟩ | ⟨h1, h2, h3⟩
  · have hn2 : (n == 0) = true := by simpa using h1
    clear h h1
    go_enter Try.func15, Try.ntmps15
    go_wp2_with (first | (go_at_call 52; ((with_reducible refine HM.out.mono ?_); rintro e w1 ⟨rfl, hb⟩; have HB1 := Aside0.mk hb; clear hb)) | (go_at_call 48; ((with_reducible refine (dk_alive _).mono ?_); rintro e w3 ⟨rfl, hb⟩; have HB3 := Aside0.mk (bel_step HB1.out hb); clear hb)))
    all_goals
      go_ret
      exact ⟨rfl, HB3.out⟩
  · have hn2 : (n == 0) = false := by simpa using h1
    clear h h1
    go_enter Try.func15, Try.ntmps15
    go_wp2_with (first | (go_at_call 52; ((with_reducible refine HM.out.mono ?_); rintro e w1 ⟨rfl, hb⟩; have HB1 := Aside0.mk hb; clear hb)) | (go_at_call 48; ((with_reducible refine (dk_alive _).mono ?_); rintro e w3 ⟨rfl, hb⟩; have HB3 := Aside0.mk (bel_step HB1.out hb); clear hb)))
    all_goals
      go_ret
      exact ⟨rfl, HB3.out⟩
  · have hn2 : (n == 0) = false := by simpa using h1
    clear h h1
    go_enter Try.func15, Try.ntmps15
    go_wp2_with (first | (go_at_call 52; ((with_reducible refine HM.out.mono ?_); rintro e w1 ⟨rfl, hb⟩; have HB1 := Aside0.mk hb; clear hb)) | (go_at_call 48; ((with_reducible refine (dk_alive _).mono ?_); rintro e w3 ⟨rfl, hb⟩; have HB3 := Aside0.mk (bel_step HB1.out hb); clear hb)))
    all_goals
      go_ret
      exact ⟨rfl, HB3.out⟩
theorem diskTorn_walk (gen which a : Int) (w : World) (_h1 : (Lit.int .i64 gen).wf = true) (_h2 : (Lit.int .i64 which).wf = true) (_h3 : (Lit.int .i64 a).wf = true) :
    Calls Try.prog 15 #[.int .i64 gen, .int .i64 which, .int .i64 a] w fun e w' => e = .returned (.bool true) ∧ Below w.heap.size w w' := by
  by_cases h : markN gen which = 0 ∨ a < 0 ∨ 63 < a
  · exact torn_not gen which a w h
  · obtain ⟨k, rfl⟩ := Int.eq_ofNat_of_zero_le (show 0 ≤ a by omega)
    exact torn_bit gen which k w (by omega) (by omega)
end Go.Proofs.Ytbfogcckbhkciaa.Hand
