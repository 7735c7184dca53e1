/- What a claim needs of the walks and contracts, part 6. -/
import Derived.Test.YtbfogcckbhkciaaHandV5
namespace Go.Proofs.Ytbfogcckbhkciaa.Hand
open Go.RowKit Go.Maps Go.Proofs.YtbfogcckbhkciaaW.PrintWords Go.Proofs.YtbfogcckbhkciaaW.PrintLast Go.Proofs.Ytbfogcckbhkciaa.PHandRP
set_option linter.unusedVariables false
set_option linter.unusedSimpArgs false
theorem dput (k : Nat) (hk : k = 1 ∨ k = 2 ∨ k = 4) (W : World) {x : Int} (h0 : 0 ≤ x) (h1 : x < 2 ^ (8 * k)) : Calls Try.prog 82 #[.int .i64 (k : Int), .int .u64 x] W fun e w' => e = .returned (.string (strOfNums (leB x k))) ∧ Below W.heap.size W w' := by
  have := rPut_yes (k : Int) x W (by
    simp only [rfitsB, Bool.and_eq_true, decide_eq_true_eq]
    rcases hk with rfl | rfl | rfl
    · exact ⟨by decide, by rw [show topN ((1 : Nat) : Int) = 255 from rfl]; omega⟩
    · exact ⟨by decide, by rw [show topN ((2 : Nat) : Int) = 65535 from rfl]; omega⟩
    · exact ⟨by decide, by rw [show topN ((4 : Nat) : Int) = 4294967295 from rfl]; omega⟩) h0
  rw [Int.toNat_natCast] at this
  exact this
theorem d19seal_calls (l : List Int) (hb : Bys l) (hl : l.length ≤ 20000) (w : World) :
    Calls Try.prog 128 #[.string (strOfNums l)] w fun e w' => e = .returned (.string (strOfNums (sealL l))) ∧ Below w.heap.size w w' := by
  have hcr := tI_lt (crcV 0#16 l)
  have HMR := Aside0.mk (fun (W : World) => show Calls Try.prog 132 #[.int .i64 0, .string (strOfNums l)] W (fun e w' => e = .returned (.int .i64 (crcI l)) ∧ W = w') from by
    have := rMore_calls 0 (strOfNums l) (by rw [strOfNums_size]; omega) W
    rw [bytes_str hb] at this
    exact this)
  have HPC := Aside0.mk (fun (W : World) => show Calls Try.prog 82 #[.int .i64 2, .int .u64 (crcI l)] W (fun e w' => e = .returned (.string (strOfNums (leB (crcI l) 2))) ∧ Below W.heap.size W w') from dput 2 (by decide) W hcr.1 hcr.2)
  have EC := u64_wrap_of (x := crcI l) hcr.1 (by have := hcr.2; show tI _ < _; omega)
  have z1 : (strOfNums l).size ≤ 20000 := by rw [strOfNums_size]; exact hl
  have z2 : (strOfNums (leB (crcI l) 2)).size ≤ 2 := by rw [strOfNums_size, leB_length]; exact Nat.le_refl _
  clear hcr hb
  go_enter Try.func128, Try.ntmps128
  go_wp2_with (first | (go_at_call 132; ((with_reducible refine (HMR.out _).mono ?_); rintro e w1 ⟨rfl, rfl⟩)) | (go_at_call 82; ((with_reducible refine (HPC.out _).mono ?_); rintro e w2 ⟨rfl, hb⟩; have HB2 := Aside0.mk hb; clear hb)))
  go_ret
  exact ⟨by rw [sealL, ← str_app]; rfl, HB2.out⟩
def markS (g k : Int) : List Int := if MarkOk g k then markL g k else []
theorem d19mark_calls (g k : Int) (w : World) : Calls Try.prog 105 #[.int .i64 g, .int .i64 k] w fun e w' => e = .returned (.string (strOfNums (markS g k))) ∧ Below w.heap.size w w' := by
  by_cases h : MarkOk g k
  · have HM := Aside0.mk (show markS g k = sealL (markH g k) from if_pos h)
    have HBY := Aside0.mk (markH_bys h)
    obtain ⟨h1, h2, h3, h4⟩ := h
    have HP4 := Aside0.mk (fun (W : World) => show Calls Try.prog 82 #[.int .i64 4, .int .u64 g] W (fun e w' => e = .returned (.string (strOfNums (leB g 4))) ∧ Below W.heap.size W w') from dput 4 (by decide) W (by omega) (by omega))
    have HP1 := Aside0.mk (fun (W : World) => show Calls Try.prog 82 #[.int .i64 1, .int .u64 k] W (fun e w' => e = .returned (.string (strOfNums (leB k 1))) ∧ Below W.heap.size W w') from dput 1 (by decide) W h3 (by omega))
    have EG := u64_wrap_of (x := g) (by omega) (by omega)
    have EK := u64_wrap_of (x := k) (by omega) (by omega)
    have z1 : (strOfNums (leB g 4)).size ≤ 4 := by rw [strOfNums_size, leB_length]; exact Nat.le_refl _
    have z2 : (strOfNums (leB k 1)).size ≤ 1 := by rw [strOfNums_size, leB_length]; exact Nat.le_refl _
    have HSL := Aside0.mk (fun (W : World) => show Calls Try.prog 128 #[.string (strOfNums (leB g 4) ++ strOfNums (leB k 1) ++ (⟨#[0]⟩ : ByteArray))] W (fun e w' => e = .returned (.string (strOfNums (sealL (markH g k)))) ∧ Below W.heap.size W w') from by
      have e : strOfNums (leB g 4) ++ strOfNums (leB k 1) ++ (⟨#[0]⟩ : ByteArray) = strOfNums (markH g k) := by
        rw [show (⟨#[0]⟩ : ByteArray) = strOfNums [0] from rfl, str_app, str_app, markH]
        have : leB k 1 = [k] := by simp [leB]; omega
        rw [this, List.append_assoc]
        rfl
      rw [e]
      exact d19seal_calls _ HBY.out (by rw [markH_length]; omega) W)
    rw [HM.out]
    go_enter Try.func105, Try.ntmps105
    go_wp2_with (first | (go_at_call 82; (first | ((with_reducible refine (HP4.out _).mono ?_); rintro e w1 ⟨rfl, hb⟩; have HB1 := Aside0.mk hb; clear hb) | ((with_reducible refine (HP1.out _).mono ?_); rintro e w2 ⟨rfl, hb⟩; have HB2 := Aside0.mk (bel_step HB1.out hb); clear hb))) | (go_at_call 128; ((with_reducible refine (HSL.out _).mono ?_); rintro e w3 ⟨rfl, hb⟩; have HB3 := Aside0.mk (bel_step HB2.out hb); clear hb)))
    go_ret
    exact ⟨rfl, HB3.out⟩
  · have HM := Aside0.mk (show markS g k = [] from if_neg h)
    rw [HM.out]
    rcases (show g < 1 ∨ (¬ g < 1 ∧ 4294967295 < g) ∨ (¬ g < 1 ∧ ¬ 4294967295 < g ∧ k < 0) ∨ (¬ g < 1 ∧ ¬ 4294967295 < g ∧ ¬ k < 0 ∧ 1 < k) by unfold MarkOk at h; omega) with z1 | ⟨z1, z2⟩ | ⟨z1, z2, z3⟩ | ⟨z1, z2, z3, z4⟩
    all_goals
      go_enter Try.func105, Try.ntmps105
      go_wp2
      go_ret
      exact ⟨rfl, Below.refl _ _⟩
theorem d19Mark_calls (g k : Int) (w : World) : Calls Try.prog 136 #[.int .i64 g, .int .i64 k] w fun e w' => e = .returned (.int .u64 (markN g k)) ∧ Below w.heap.size w w' := by
  have HG := Aside0.mk (fun (W : World) => show Calls Try.prog 116 #[.string (strOfNums (markS g k)), .int .i64 0, .int .i64 8] W (fun e w' => ∃ b : Bool, e = .returned (.tuple #[.int .u64 (markN g k), .bool b]) ∧ W = w') from by
    by_cases h : MarkOk g k
    · have e1 : markS g k = markL g k := if_pos h
      have h1 : (rightB 8 && insideB 0 8 (strOfNums (markL g k)).size) = true := by rw [strOfNums_size, markL_length]; decide
      have := rGet_yes (strOfNums (markL g k)) 0 8 W (by rw [strOfNums_size, markL_length]; omega) h1
      rw [e1]
      rw [bytes_str (markL_bys h)] at this
      refine this.mono ?_
      rintro e w' ⟨rfl, rfl⟩
      refine ⟨true, ?_, rfl⟩
      rw [markN, if_pos h, show cut (markL g k) (0 : Int).toNat (8 : Int).toNat = markL g k from by rw [cut]; exact List.take_of_length_le (by rw [show (0 : Int).toNat = 0 from rfl, List.drop_zero, markL_length]; decide)]
    · have e1 : markS g k = [] := if_neg h
      rw [e1]
      have := rGet_no (strOfNums []) 0 8 W (by rw [strOfNums_size]; decide)
      refine this.mono ?_
      rintro e w' ⟨rfl, rfl⟩
      exact ⟨false, by rw [markN, if_neg h], rfl⟩)
  go_enter Try.func136, Try.ntmps136
  go_wp2_with (first | (go_at_call 105; ((with_reducible refine (d19mark_calls g k _).mono ?_); rintro e w1 ⟨rfl, hb⟩; have HB1 := Aside0.mk hb; clear hb)) | (go_at_call 116; ((with_reducible refine (HG.out _).mono ?_); rintro e w2 ⟨b, rfl, rfl⟩)))
  go_ret
  exact ⟨rfl, HB1.out⟩
theorem d19room_calls (n : Nat) (w : World) (hn : n ≤ 8192) : Calls Try.prog 103 #[.int .i64 n] w fun e w' => e = .returned (.int .i64 (roomN n : Nat)) ∧ w = w' := by
  by_cases h : n < 1
  · obtain rfl : n = 0 := by omega
    go_enter Try.func103, Try.ntmps103
    go_wp2
    go_ret
    exact ⟨rfl, rfl⟩
  · have e1 : IntKind.i64.wrap ((n : Int) - 1) = n - 1 := IntWalk.i64_in _ (by omega)
    have e2 : Int.tdiv ((n : Int) - 1) 2 = (n - 1) / 2 := Int.tdiv_eq_ediv_of_nonneg (by omega)
    have e3 : IntKind.i64.wrap (((n : Int) - 1) / 2) = (n - 1) / 2 := IntWalk.i64_in _ (by omega)
    have e4 : IntKind.i64.wrap (((n : Int) - 1) / 2 * 8) = (n - 1) / 2 * 8 := IntWalk.i64_in _ (by omega)
    have HR := Aside0.mk (show ((n : Int) - 1) / 2 * 8 = (roomN n : Nat) from by rw [roomN, Nat.max_eq_left (by omega)]; omega)
    go_enter Try.func103, Try.ntmps103
    go_wp2
    go_ret
    exact ⟨by rw [← HR.out]; rfl, rfl⟩
/-- A number is a mark just with the area that stands in it. -/
theorem mark_which {n w : Int} (hw : 0 ≤ w ∧ w ≤ 1) (hn : n ≠ 0) (h : markN (n % 4294967296) w = n) : n / 4294967296 % 256 = w := by
  have hm : MarkOk (n % 4294967296) w := by
    by_cases hm : MarkOk (n % 4294967296) w
    · exact hm
    · rw [markN, if_neg hm] at h
      exact absurd h.symm hn
  have e := markN_eq hm
  have hc := tI_lt (crcV 0#16 (markH (n % 4294967296) w))
  rw [← crcI] at hc
  rw [h] at e
  omega
theorem readM_is (n : Int) (w : Int) (hw : 0 ≤ w ∧ w ≤ 1) (hn : n ≠ 0) (h : markN (n % 4294967296) w = n) : readM n = (n % 4294967296, w, true) := by
  have e := mark_which hw hn h
  rw [readM, e, if_neg (by simp [hn, h])]
theorem readM_not (n : Int) (h : n = 0 ∨ (markN (n % 4294967296) 0 ≠ n ∧ markN (n % 4294967296) 1 ≠ n)) : readM n = (0, 0, false) := by
  rw [readM]
  rcases h with h | ⟨h1, h2⟩
  · rw [if_pos (.inl h)]
  · refine if_pos (.inr (fun e => ?_))
    by_cases hn : n = 0
    · subst hn
      exact h1 (by decide)
    by_cases hm : MarkOk (n % 4294967296) (n / 4294967296 % 256)
    · obtain ⟨_, _, h3, h4⟩ := hm
      rcases (show n / 4294967296 % 256 = 0 ∨ n / 4294967296 % 256 = 1 by omega) with e2 | e2
      · rw [e2] at e; exact h1 e
      · rw [e2] at e; exact h2 e
    · rw [markN, if_neg hm] at e
      exact hn e.symm
theorem d19read_calls (n : Int) (w : World) (h0 : 0 ≤ n) (h1 : n < 18446744073709551616) : Calls Try.prog 127 #[.int .u64 n] w fun e w' => e = .returned (.tuple #[.int .i64 (readM n).1, .int .i64 (readM n).2.1, .bool (readM n).2.2]) ∧ Below w.heap.size w w' := by
  have e1 : Int.tmod n 4294967296 = n % 4294967296 := Int.tmod_eq_emod_of_nonneg h0
  have e2 : IntKind.i64.wrap (n % 4294967296) = n % 4294967296 := IntWalk.i64_in _ (by omega)
  have HMK := Aside0.mk (fun (k : Int) (W : World) => d19Mark_calls (n % 4294967296) k W)
  by_cases hn : n = 0
  · subst hn
    have HR := Aside0.mk (readM_not 0 (.inl rfl))
    rw [HR.out]
    go_enter Try.func127, Try.ntmps127
    go_wp2
    go_loopw [6] (fun i wr => ∃ j : Nat, j ≤ 2 ∧ i = .int .i64 j ∧ Aside0 (Below w.heap.size w wr)) (fun i _ => (2 - intOf i).toNat)
    case atStart => exact ⟨0, by decide, rfl, ⟨Below.refl _ _⟩⟩
    case round =>
      obtain ⟨j, hj, rfl, HB⟩ := hrel
      by_cases hlt : j < 2
      · go_wp2
        go_roundw
        case rel => exact ⟨j + 1, by omega, by go_num, HB⟩
        case measure => simp [intOf]; omega
      · obtain rfl : j = 2 := by omega
        go_wp2
        go_ret3
        exact ⟨rfl, HB.out⟩
  · have hz : (n == 0) = false := by rw [beq_eq_false_iff_ne]; exact hn
    obtain ⟨g, hg⟩ : ∃ g, g = n % 4294967296 := ⟨_, rfl⟩
    have HIS := Aside0.mk (fun (k : Int) (hk : 0 ≤ k ∧ k ≤ 1) (h : markN g k = n) => readM_is n k hk hn (hg ▸ h))
    have HNO := Aside0.mk (fun (h1 : markN g 0 ≠ n) (h2 : markN g 1 ≠ n) => readM_not n (.inr ⟨hg ▸ h1, hg ▸ h2⟩))
    rw [← hg] at e1 e2 HMK HIS
    clear hg
    go_enter Try.func127, Try.ntmps127
    go_wp2
    go_loopw [6] (fun i wr => ∃ j : Nat, j ≤ 2 ∧ i = .int .i64 j ∧ Aside0 (∀ t : Nat, t < j → markN g t ≠ n) ∧ Aside0 (Below w.heap.size w wr)) (fun i _ => (2 - intOf i).toNat)
    case atStart => exact ⟨0, by decide, rfl, ⟨fun t ht => absurd ht (Nat.not_lt_zero _)⟩, ⟨Below.refl _ _⟩⟩
    case round =>
      obtain ⟨j, hj, rfl, HT, HB⟩ := hrel
      by_cases hlt : j < 2
      · by_cases hm : markN g j = n
        · have hmb : (markN g j == n) = true := by rw [hm]; simp
          have HR := Aside0.mk (HIS.out j (by omega) hm)
          go_wp2_with (go_at_call 136; ((with_reducible refine (HMK.out _ _).mono ?_); rintro e w1 ⟨rfl, hb⟩; have HB1 := Aside0.mk (bel_step HB.out hb); clear hb))
          go_ret3
          rw [HR.out]
          exact ⟨rfl, HB1.out⟩
        · have hmb : (markN g j == n) = false := by rw [beq_eq_false_iff_ne]; exact hm
          go_wp2_with (go_at_call 136; ((with_reducible refine (HMK.out _ _).mono ?_); rintro e w1 ⟨rfl, hb⟩; have HB1 := Aside0.mk (bel_step HB.out hb); clear hb))
          go_roundw
          case rel =>
            refine ⟨j + 1, by omega, by go_num, ⟨fun t ht => ?_⟩, HB1⟩
            rcases Nat.lt_or_ge t j with h | h
            · exact HT.out t h
            · rw [show t = j by omega]; exact hm
          case measure => simp [intOf]; omega
      · obtain rfl : j = 2 := by omega
        have HR := Aside0.mk (HNO.out (HT.out 0 (by decide)) (HT.out 1 (by decide)))
        go_wp2
        go_ret3
        rw [HR.out]
        exact ⟨rfl, HB.out⟩
end Go.Proofs.Ytbfogcckbhkciaa.Hand
namespace Go.Proofs.Ytbfogcckbhkciaa.Hand
open Go.RowKit Go.Maps Go.Proofs.YtbfogcckbhkciaaW.PrintWords Go.Proofs.YtbfogcckbhkciaaW.PrintLast Go.Proofs.YtbfogcckbhkciaaW.PrintMore Go.Proofs.Ytbfogcckbhkciaa.PHandRP
set_option linter.unusedVariables false
set_option linter.unusedSimpArgs false
theorem d19of_calls {w : World} {b n : Nat} {v : Value} {d : Dev} (hd : d.Ok) (h : RowV w b v d n) (hl : d.B.length = 8 * n) :
    Calls Try.prog 102 #[v] w fun e w' => e = .returned (.tuple #[.int .i64 (dmark d).1, .int .i64 (dmark d).2]) ∧ Below w.heap.size w w' := by
  have hn : n ≤ 8192 := by have := hd.max; omega
  have HRB := Aside0.mk (r3bytes_calls h hl hn)
  obtain ⟨x, hx⟩ : ∃ x, x = if d.B.length < 8 then 0 else numL (cut d.B 0 8) := ⟨_, rfl⟩
  have HG := Aside0.mk (fun (W : World) => show Calls Try.prog 116 #[.string (strOfNums d.B), .int .i64 0, .int .i64 8] W (fun e w' => ∃ b : Bool, e = .returned (.tuple #[.int .u64 x, .bool b]) ∧ W = w') from by
    rw [hx]
    by_cases h8 : d.B.length < 8
    · rw [if_pos h8]
      have := rGet_no (strOfNums d.B) 0 8 W (by rw [strOfNums_size]; simp [rightB, insideB]; omega)
      refine this.mono ?_
      rintro e w' ⟨rfl, rfl⟩
      exact ⟨false, rfl, rfl⟩
    · rw [if_neg h8]
      have h1 : (rightB 8 && insideB 0 8 (strOfNums d.B).size) = true := by rw [strOfNums_size]; simp [rightB, insideB]; omega
      have := rGet_yes (strOfNums d.B) 0 8 W (by rw [strOfNums_size]; have := hd.max; omega) h1
      rw [bytes_str hd.bys] at this
      refine this.mono ?_
      rintro e w' ⟨rfl, rfl⟩
      exact ⟨true, rfl, rfl⟩)
  have hx0 : 0 ≤ x ∧ x < 18446744073709551616 := by
    rw [hx]
    by_cases h8 : d.B.length < 8
    · rw [if_pos h8]; omega
    · rw [if_neg h8]
      have h1 := numL_nonneg (cut_bys hd.bys 0 8)
      have h2 := numL_lt (cut_bys hd.bys 0 8)
      rw [cut_length (by omega)] at h2
      exact ⟨h1, by simpa using h2⟩
  have HDM := Aside0.mk (show dmark d = ((readM x).1, (readM x).2.1) from by
    rw [dmark, hx]
    by_cases h8 : d.B.length < 8
    · rw [if_pos h8, if_pos h8, readM_not 0 (.inl rfl)]
    · rw [if_neg h8, if_neg h8])
  have HRD := Aside0.mk (fun (W : World) => d19read_calls x W hx0.1 hx0.2)
  rw [HDM.out]
  clear hx hx0 h hl hd
  go_enter Try.func102, Try.ntmps102
  go_wp2_with (first | (go_at_call 59; ((with_reducible refine HRB.out.mono ?_); rintro e w1 ⟨rfl, hb⟩; have HB1 := Aside0.mk hb.below; clear hb)) | (go_at_call 116; ((with_reducible refine (HG.out _).mono ?_); rintro e w2 ⟨b, rfl, rfl⟩)) | (go_at_call 127; ((with_reducible refine (HRD.out _).mono ?_); rintro e w3 ⟨rfl, hb⟩; have HB3 := Aside0.mk (bel_step HB1.out hb); clear hb)))
  go_ret2
  exact ⟨rfl, HB3.out⟩
theorem str_midD (l : List Int) (a n : Nat) (i j : Int) (hi : i = a) (hj : j = a + n) (h : a + n ≤ l.length) (W : World) : (Instr.slice 9 (.string (strOfNums l)) (some (.int .i64 i)) (some (.int .i64 j)) none).run Try.prog W = .ok (.string (strOfNums (cut l a n))) W := by
  subst hi hj
  rw [run_slice_string W 9 (strOfNums l) .i64 .i64 (a : Int) ((a : Int) + n) Try.underlying9 (by omega) (by omega) (by rw [strOfNums_size]; omega), str_extract, show ((a : Int) + n).toNat = a + n by omega, Int.toNat_natCast, cut, List.drop_take, Nat.add_sub_cancel_left]
theorem d19load_calls {w : World} {b n : Nat} {v : Value} {d : Dev} (hd : d.Ok) (h : RowV w b v d n) (hl : d.B.length = 8 * n) :
    Calls Try.prog 56 #[v] w fun e w' => e = .returned (.tuple #[.string (strOfNums (loadL d)), .int .i64 (dmark d).1, .int .i64 (if (dmark d).1 = 0 then 190 else 0)]) ∧ Below w.heap.size w w' := by
  have hn : n ≤ 8192 := by have := hd.max; omega
  obtain ⟨A, c, rfl⟩ := Kd.V_slice h
  have HOF := Aside0.mk (d19of_calls hd h hl)
  have HRB := Aside0.mk (fun (W : World) (hW : Below w.heap.size w W) => r3bytes_calls (Kd.V_below h hW) hl hn)
  rw [wdL_length] at HOF HRB ⊢
  have HRM := Aside0.mk (fun (W : World) => d19room_calls n W hn)
  by_cases h0 : (dmark d).1 = 0
  · have HE := Aside0.mk (show loadL d = [] from if_pos h0)
    rw [HE.out, if_pos h0]
    rw [h0] at HOF ⊢
    clear h hd hl
    go_enter Try.func56, Try.ntmps56
    go_wp2_with (go_at_call 102; ((with_reducible refine HOF.out.mono ?_); rintro e w1 ⟨rfl, hb⟩; have HB1 := Aside0.mk hb; clear hb))
    go_ret3
    exact ⟨rfl, HB1.out⟩
  · have hmk : MarkOk (dmark d).1 (dmark d).2 := (dmark_cases d).resolve_left (fun e => h0 (by rw [e]))
    have h8 := dmark_len h0
    have hin := area_in hd ⟨hmk.2.2.1, hmk.2.2.2⟩ h8
    have hrn : roomD d = roomN n := by rw [roomD, hl, Nat.mul_div_cancel_left _ (by decide)]
    have HE := Aside0.mk (show loadL d = cut d.B (8 + (dmark d).2.toNat * roomD d) (roomD d) from if_neg h0)
    rw [HE.out, if_neg h0]
    rw [hrn] at hin ⊢
    obtain ⟨g, hg⟩ : ∃ g, g = (dmark d).1 := ⟨_, rfl⟩
    obtain ⟨k, hk⟩ : ∃ k, k = (dmark d).2 := ⟨_, rfl⟩
    rw [← hg] at HOF h0 hmk ⊢
    rw [← hk] at HOF hmk hin ⊢
    obtain ⟨_, _, k0, k1⟩ := hmk
    obtain ⟨r, hr⟩ : ∃ r, r = roomN n := ⟨_, rfl⟩
    rw [← hr] at HRM hin ⊢
    obtain ⟨k, rfl⟩ := Int.eq_ofNat_of_zero_le k0
    rw [Int.toNat_natCast] at hin ⊢
    have hkr : k * r ≤ 65536 := by omega
    have hkr2 : (k : Int) * (r : Int) = ((k * r : Nat) : Int) := by rw [Int.natCast_mul]
    have hsl := fun (W : World) => str_midD d.B (8 + k * r) r (8 + (k : Int) * r) (8 + (k : Int) * r + r) (by omega) (by omega) (by omega) W
    have e1 : IntKind.i64.wrap ((k : Int) * r) = k * r := IntWalk.i64_in _ (by omega)
    have e2 : IntKind.i64.wrap (8 + (k : Int) * r) = 8 + k * r := IntWalk.i64_in _ (by omega)
    have e3 : IntKind.i64.wrap (8 + (k : Int) * r + r) = 8 + k * r + r := IntWalk.i64_in _ (by omega)
    have hz : (g == 0) = false := by rw [beq_eq_false_iff_ne]; exact h0
    clear h hd hl hg hk hr hin hkr2 hrn
    go_enter Try.func56, Try.ntmps56
    go_wp2_with (first | (go_at_call 102; ((with_reducible refine HOF.out.mono ?_); rintro e w1 ⟨rfl, hb⟩; have HB1 := Aside0.mk hb; clear hb)) | (go_at_call 103; ((with_reducible refine (HRM.out _).mono ?_); rintro e w2 ⟨rfl, rfl⟩)) | (go_at_call 59; ((with_reducible refine (HRB.out _ HB1.out).mono ?_); rintro e w3 ⟨rfl, hb⟩; have HB3 := Aside0.mk (bel_step HB1.out hb.below); clear hb)))
    go_ret3
    exact ⟨rfl, HB3.out⟩
/-- A call as the document tells it is a device's step; its bytes lie in a block of T. -/
structure OpOk (w : World) (T : Nat → Prop) (o : OpP) (m : StepM) : Prop where
  wf : WfPo w o
  ck : o.ks.length ≤ o.c2
  bk : 0 < o.bs.length → ∀ ad, o.A1 = some ad → T ad.block
  kk : o.ks = []
  st : ∀ d, stepD d o = d.step m
  z1 : o.z ≠ 1
theorem reads_same {q : IntKind} {w w1 : World} {A : Option Addr} {n : Nat} {l : List Int} (h : ReadsInt w q A n l) (hm : 0 < n → ∀ ad, A = some ad → w1.heap[ad.block]? = w.heap[ad.block]?) : ReadsInt w1 q A n l := by
  refine ⟨h.1, h.2.1, fun h0 => ?_⟩
  obtain ⟨ad, e, hx⟩ := h.2.2 h0
  refine ⟨ad, e, fun j hj => ?_⟩
  have hb : (ad.add j).block = ad.block := by unfold Addr.add; split <;> rfl
  rw [← hx j hj]
  simp only [World.cell?, hb, hm h0 ad e]
theorem reads_lt {q : IntKind} {w : World} {A : Option Addr} {n : Nat} {l : List Int} (h : ReadsInt w q A n l) (h0 : 0 < n) {ad : Addr} (e : A = some ad) : ad.block < w.heap.size := by
  obtain ⟨ad', e', hx⟩ := h.2.2 h0
  rw [e] at e'
  obtain rfl := Option.some.inj e'
  have := World.block_lt_of_cell? _ _ (hx 0 h0)
  have hb : (ad.add 0).block = ad.block := by unfold Addr.add; split <;> rfl
  rwa [hb] at this
theorem OpOk.go {w w1 : World} {T T' : Nat → Prop} {o : OpP} {m : StepM} (h : OpOk w T o m) (hm : ∀ k, k < w.heap.size → T k → w1.heap[k]? = w.heap[k]? ∧ T' k) : OpOk w1 T' o m := by
  refine ⟨⟨reads_same h.wf.rb (fun h0 ad e => (hm _ (reads_lt h.wf.rb h0 e) (h.bk h0 ad e)).1), h.wf.by_, h.wf.cb, ?_, h.wf.hz, h.wf.ha, h.wf.hl⟩, h.ck, fun h0 ad e => (hm _ (reads_lt h.wf.rb h0 e) (h.bk h0 ad e)).2, h.kk, h.st, h.z1⟩
  have := h.wf.rk
  rw [h.kk] at this ⊢
  exact ⟨this.1, this.2.1, fun h0 => absurd h0 (by simp)⟩
def AllO (w : World) (T : Nat → Prop) : List OpP → List StepM → Prop
  | [], [] => True
  | o :: os, m :: ms => OpOk w T o m ∧ AllO w T os ms
  | _, _ => False
theorem AllO.go {w w1 : World} {T T' : Nat → Prop} (hm : ∀ k, k < w.heap.size → T k → w1.heap[k]? = w.heap[k]? ∧ T' k) : ∀ {os : List OpP} {ms : List StepM}, AllO w T os ms → AllO w1 T' os ms
  | [], [], _ => trivial
  | o :: os, m :: ms, h => ⟨h.1.go hm, AllO.go hm h.2⟩
theorem AllO.app {w : World} {T : Nat → Prop} {os' : List OpP} {ms' : List StepM} (h2 : AllO w T os' ms') : ∀ {os : List OpP} {ms : List StepM}, AllO w T os ms → AllO w T (os ++ os') (ms ++ ms')
  | [], [], _ => h2
  | o :: os, m :: ms, h => ⟨h.1, AllO.app h2 h.2⟩
theorem AllO.len {w : World} {T : Nat → Prop} : ∀ {os : List OpP} {ms : List StepM}, AllO w T os ms → os.length = ms.length
  | [], [], _ => rfl
  | o :: os, m :: ms, h => congrArg (· + 1) (AllO.len h.2)
theorem AllO.get {w : World} {T : Nat → Prop} : ∀ {os : List OpP} {ms : List StepM} {i : Nat} {m : StepM}, AllO w T os ms → ms[i]? = some m → ∃ o, os[i]? = some o ∧ OpOk w T o m
  | [], [], i, m, _, h => by simp at h
  | o :: os, m' :: ms, 0, m, ha, h => by
    obtain rfl : m' = m := by simpa using h
    exact ⟨o, rfl, ha.1⟩
  | o :: os, m' :: ms, i + 1, m, ha, h => by
    obtain ⟨x, hx, ho⟩ := AllO.get (i := i) ha.2 (by simpa using h)
    exact ⟨x, by simpa using hx, ho⟩
theorem op_wr (w : World) (T : Nat → Prop) (a : Nat) (ha : a ≤ 200000) (z : Int) (hz : z = a) (g c : Nat) (l : List Int) (hr : ReadsInt w .u8 (some ⟨g, 0, none⟩) l.length l) (hb : Bys l) (hc : l.length ≤ c) (hg : T g) : OpOk w T ⟨0, z, 0, some ⟨g, 0, none⟩, c, l, none, 0, []⟩ (.wr a l) := by
  subst hz
  refine ⟨⟨hr, hb, hc, ⟨rfl, by simp, fun h => absurd h (by simp)⟩, by simp, ⟨by show _ ≤ (a : Int); omega, by show (a : Int) ≤ _; omega⟩, by simp⟩, Nat.le_refl _, fun _ ad e => by obtain rfl := Option.some.inj e; exact hg, rfl, fun d => ?_, by simp⟩
  simp only [stepD, Dev.step]
  rw [if_pos trivial]
  by_cases h : a + l.length ≤ d.B.length
  · have e : insE d.B.length (a : Int) (l.length : Int) = 0 := by rw [insE, if_neg (by omega), if_neg (by omega)]
    rw [if_pos h, if_pos e, Int.toNat_natCast]
  · have e : insE d.B.length (a : Int) (l.length : Int) ≠ 0 := by rw [insE, if_neg (by omega), if_pos (by omega)]; decide
    rw [if_neg h, if_neg e]
theorem op_fl (w : World) (T : Nat → Prop) (a m : Nat) (ha : a ≤ 200000) (hm : m ≤ 200000) (za zm : Int) (h1 : za = a) (h2 : zm = m) : OpOk w T ⟨2, za, zm, none, 0, [], none, 0, []⟩ (.fl a m) := by
  subst h1 h2
  refine ⟨⟨⟨rfl, by simp, fun h => absurd h (by simp)⟩, fun x hx => by simp at hx, Nat.le_refl _, ⟨rfl, by simp, fun h => absurd h (by simp)⟩, by simp, ⟨by show _ ≤ (a : Int); omega, by show (a : Int) ≤ _; omega⟩, ⟨by show _ ≤ (m : Int); omega, by show (m : Int) ≤ _; omega⟩⟩, Nat.le_refl _, fun h => absurd h (by simp), rfl, fun d => ?_, by simp⟩
  simp only [stepD, Dev.step]
  rw [if_neg (by decide), if_pos trivial]
  by_cases h : a + m ≤ d.B.length
  · have e : insE d.B.length (a : Int) (m : Int) = 0 := by rw [insE, if_neg (by omega), if_neg (by omega)]
    rw [if_pos h, if_pos e, Int.toNat_natCast, Int.toNat_natCast]
  · have e : insE d.B.length (a : Int) (m : Int) ≠ 0 := by rw [insE, if_neg (by omega), if_pos (by omega)]; decide
    rw [if_neg h, if_neg e]
theorem op_fe (w : World) (T : Nat → Prop) : OpOk w T ⟨3, 0, 0, none, 0, [], none, 0, []⟩ .fe := by
  refine ⟨⟨⟨rfl, by simp, fun h => absurd h (by simp)⟩, fun x hx => by simp at hx, Nat.le_refl _, ⟨rfl, by simp, fun h => absurd h (by simp)⟩, by simp, by simp, by simp⟩, Nat.le_refl _, fun h => absurd h (by simp), rfl, fun d => ?_, by simp⟩
  simp [stepD, Dev.step]
theorem AllO.two {w : World} {T : Nat → Prop} {o o' : OpP} {m m' : StepM} (h : OpOk w T o m) (h' : OpOk w T o' m') : AllO w T [o, o'] [m, m'] := ⟨h, h', trivial⟩
theorem AllO.one {w : World} {T : Nat → Prop} {o : OpP} {m : StepM} (h : OpOk w T o m) : AllO w T [o] [m] := ⟨h, trivial⟩
abbrev RowPo (w : World) (b : Nat) (v : Value) (os : List OpP) : Prop := PoK.R 26 w b (fun _ => True) v os
theorem info_op : (Try.prog.info? 26).map (fun i => (i.zero, i.size, i.bytes)) = some (some (.agg #[.int .i64 0, .int .i64 0, .int .i64 0, .slice none 0 0, .slice none 0 0]), 5, 72) := by kernel_rfl
end Go.Proofs.Ytbfogcckbhkciaa.Hand
namespace Go.Proofs.Ytbfogcckbhkciaa.Hand
open Go.RowKit Go.Maps Go.Proofs.YtbfogcckbhkciaaW.PrintWords Go.Proofs.YtbfogcckbhkciaaW.PrintLast Go.Proofs.YtbfogcckbhkciaaW.PrintMore Go.Proofs.Ytbfogcckbhkciaa.PHandRP
set_option linter.unusedVariables false
set_option linter.unusedSimpArgs false
theorem add_ops {wr W3 w6 : World} {base : Nat} {u v' : Value} {os os' : List OpP} {ms ms' : List StepM} (ha : AllO wr (TS base u) os ms) (hW : Below wr.heap.size wr W3) (hx : AllO W3 (TS base u) os' ms')
    (hg : W3.grownBy w6 u.ownBlock) (hat : v'.ownBlock = u.ownBlock ∨ ∃ b, v'.ownBlock = some b ∧ W3.heap.size ≤ b) : AllO w6 (TS base v') (os ++ os') (ms ++ ms') := by
  have h1 : AllO W3 (TS base u) os ms := ha.go (fun k hk ht => ⟨hW.block k hk, ht⟩)
  refine (AllO.app hx h1).go (fun k hk ht => ⟨hg.block k hk (fun e => ht.2 e), ht.1, ?_⟩)
  rcases hat with e | ⟨c, e, hc⟩
  · rw [e]; exact ht.2
  · rw [e]
    intro e2
    have := Option.some.inj e2
    omega
theorem po_lit (W : World) (os : List OpP) (cs : Array Value) (hcs : cs.toList = os.flatMap encPo) (hl : os.length ≤ 100) : PoK.C (W.alloc (.cells cs 26)) (some ⟨W.heap.size, 0, none⟩) os.length os := by
  have hsz : cs.size = os.length * 5 := by
    rw [← Array.length_toList, hcs]
    clear hcs hl
    induction os with
    | nil => rfl
    | cons o os ih =>
      rw [List.flatMap_cons, List.length_append, ih, List.length_cons, show (encPo o).length = 5 from rfl]
      omega
  have h := World.ownsRow_lit (base := W.heap.size) (e := 26) (size := 5) W cs os.length (Nat.le_refl _) (by unfold maxLen; omega) hsz
  rw [hcs] at h
  obtain ⟨A, c, e, _, hC⟩ := Kd.R_reads (d := PoK) (e := 26) (ok := fun _ => True) (R_flat.2 ⟨fun _ _ => trivial, h⟩)
  injection e with e1 _ _
  rw [e1]
  exact hC
theorem d19steps_full {w : World} {b n : Nat} {v : Value} {d : Dev} (hd : d.Ok) (h : RowV w b v d n) (hl : d.B.length = 8 * n) (l : List Int) (hby : Bys l) (hll : l.length ≤ 9223372036854775807) (hf : FullD d l) : Calls Try.prog 57 #[v, .string (strOfNums l)] w fun e w' => e = .returned (.tuple #[.slice none 0 0, .int .i64 191]) ∧ Below w.heap.size w w' := by
  have hn : n ≤ 8192 := by have := hd.max; omega
  obtain ⟨A, c, rfl⟩ := Kd.V_slice h
  have HOF := Aside0.mk (d19of_calls hd h hl)
  rw [wdL_length] at HOF ⊢
  have HRM := Aside0.mk (fun (W : World) => d19room_calls n W hn)
  have hrn : roomD d = roomN n := by rw [roomD, hl, Nat.mul_div_cancel_left _ (by decide)]
  unfold FullD at hf
  rw [hrn] at hf
  have hsz : (strOfNums l).size = l.length := strOfNums_size _
  have hg4 : (dmark d).1 ≤ 4294967295 := by
    rcases dmark_cases d with e | e
    · rw [e]; decide
    · exact e.2.1
  obtain ⟨g, hg⟩ : ∃ g, g = (dmark d).1 := ⟨_, rfl⟩
  obtain ⟨k, hk⟩ : ∃ k, k = (dmark d).2 := ⟨_, rfl⟩
  rw [← hg] at HOF hf hg4
  rw [← hk] at HOF
  obtain ⟨r, hr⟩ : ∃ r, r = roomN n := ⟨_, rfl⟩
  rw [← hr] at HRM hf
  clear h hd hl hg hk hr hrn hby
  rcases (show r < l.length ∨ (¬ r < l.length ∧ g = 4294967295) by omega) with z1 | ⟨z1, rfl⟩
  all_goals
    go_enter Try.func57, Try.ntmps57
    go_wp2_with (first | (go_at_call 102; ((with_reducible refine HOF.out.mono ?_); rintro e w1 ⟨rfl, hb⟩; have HB1 := Aside0.mk hb; clear hb)) | (go_at_call 103; ((with_reducible refine (HRM.out _).mono ?_); rintro e w2 ⟨rfl, rfl⟩)))
    go_ret2
    exact ⟨rfl, HB1.out⟩
theorem row_lt {w : World} {base : Nat} {v : Value} {os : List OpP} (h : RowPo w base v os) {k : Nat} (hk : v.ownBlock = some k) : k < w.heap.size := (Kd.R_bound h).1 k hk |>.2.2.1
/-- What Steps leaves: the calls, one for each step. -/
def StepsO (w : World) (ms : List StepM) (e : Ending) (w' : World) : Prop :=
  ∃ (u : Value) (os : List OpP), e = .returned (.tuple #[u, .int .i64 0]) ∧ RowPo w' w.heap.size u os ∧ AllO w' (TS w.heap.size u) os ms ∧ Below w.heap.size w w'
set_option maxRecDepth 100000 in
set_option maxHeartbeats 8000000 in
theorem d19steps_go {w : World} {b n : Nat} {v : Value} {d : Dev} (hd : d.Ok) (h : RowV w b v d n) (hl : d.B.length = 8 * n) (l : List Int) (hby : Bys l) (hll : l.length ≤ 400) (hf : ¬ FullD d l) : Calls Try.prog 57 #[v, .string (strOfNums l)] w (StepsO w (stepsD d l)) := by
  have hn : n ≤ 8192 := by have := hd.max; omega
  obtain ⟨A, c, rfl⟩ := Kd.V_slice h
  have HOF := Aside0.mk (d19of_calls hd h hl)
  rw [wdL_length] at HOF ⊢
  have HRM := Aside0.mk (fun (W : World) => d19room_calls n W hn)
  have hrn : roomD d = roomN n := by rw [roomD, hl, Nat.mul_div_cancel_left _ (by decide)]
  unfold FullD at hf
  rw [hrn] at hf
  have hsz : (strOfNums l).size = l.length := strOfNums_size _
  have hmk : (dmark d).1 = 0 ∧ (dmark d).2 = 0 ∨ (1 ≤ (dmark d).1 ∧ 0 ≤ (dmark d).2 ∧ (dmark d).2 ≤ 1) := by
    rcases dmark_cases d with e | e
    · rw [e]; exact .inl ⟨rfl, rfl⟩
    · exact .inr ⟨e.1, e.2.2.1, e.2.2.2⟩
  have HSD := Aside0.mk (show stepsD d l = wrsN (newAt d) (padL l) ((padL l).length / 8) ++ [.fl (newAt d) (padL l).length, .fe, .wr 0 (markL ((dmark d).1 + 1) (newK d)), .fl 0 8, .fe] from rfl)
  have hnk : newK d = if (dmark d).1 = 0 then 0 else 1 - (dmark d).2 := rfl
  have hna : newAt d = 8 + (newK d).toNat * roomN n := by rw [newAt, hrn]
  obtain ⟨g, hg⟩ : ∃ g, g = (dmark d).1 := ⟨_, rfl⟩
  obtain ⟨k, hk⟩ : ∃ k, k = (dmark d).2 := ⟨_, rfl⟩
  rw [← hg] at HOF hf hmk hnk HSD
  rw [← hk] at HOF hmk hnk
  obtain ⟨r, hr⟩ : ∃ r, r = roomN n := ⟨_, rfl⟩
  rw [← hr] at HRM hf hna
  have hr8 : r ≤ 65536 := by rw [hr]; unfold roomN; omega
  obtain ⟨kk, hkk⟩ : ∃ kk, kk = newK d := ⟨_, rfl⟩
  rw [← hkk] at hnk hna HSD
  obtain ⟨at_, hat⟩ : ∃ a, a = newAt d := ⟨_, rfl⟩
  rw [← hat] at hna HSD
  have hkk01 : 0 ≤ kk ∧ kk ≤ 1 := by
    rw [hnk]
    split <;> omega
  have HMK := Aside0.mk (fun (W : World) => d19mark_calls (g + 1) kk W)
  have HMS := Aside0.mk (show markS (g + 1) kk = markL (g + 1) kk from if_pos ⟨by omega, by omega, hkk01.1, hkk01.2⟩)
  rw [HMS.out] at HMK
  have HMB := Aside0.mk (markL_bys (gen := g + 1) (which := kk) ⟨by omega, by omega, hkk01.1, hkk01.2⟩)
  have hml := Aside0.mk (markL_length (g + 1) kk)
  obtain ⟨M, hM⟩ : ∃ M, M = markL (g + 1) kk := ⟨_, rfl⟩
  rw [← hM] at HMK HMB hml HSD
  have HPD := Aside0.mk (fun (W : World) => rPad_calls l W (by omega))
  obtain ⟨X, hX⟩ : ∃ X, X = padL l := ⟨_, rfl⟩
  have hxl : X.length = 8 * ((l.length + 7) / 8) := by rw [hX]; exact padL_length l
  have HXB := Aside0.mk (show Bys X from by rw [hX]; exact padL_bys hby)
  rw [← hX] at HPD HSD
  obtain ⟨q, hq⟩ : ∃ q, q = (l.length + 7) / 8 := ⟨_, rfl⟩
  rw [← hq] at hxl
  rw [hxl, Nat.mul_div_cancel_left _ (by decide)] at HSD
  have hq51 : q ≤ 60 := by omega
  have hxs : (strOfNums X).size = 8 * q := by rw [strOfNums_size, hxl]
  rw [HSD.out]
  have hkz : (kk.toNat : Int) = kk := by omega
  have e1 : IntKind.i64.wrap (kk * r) = kk * r := by
    rcases (show kk = 0 ∨ kk = 1 by omega) with e | e <;> rw [e] <;> exact IntWalk.i64_in _ (by omega)
  have e2 : 8 + kk * (r : Int) = (at_ : Nat) := by
    rw [hna]
    rcases (show kk = 0 ∨ kk = 1 by omega) with e | e <;> rw [e] <;> simp
  have hat65 : at_ ≤ 70000 := by
    rw [hna]
    rcases (show kk = 0 ∨ kk = 1 by omega) with e | e <;> rw [e] <;> simp <;> omega
  have e3 : IntKind.i64.wrap (at_ : Int) = at_ := IntWalk.i64_in _ (by omega)
  have eg : IntKind.i64.wrap (g + 1) = g + 1 := IntWalk.i64_in _ (by omega)
  clear h hd hl hg hk hr hrn hby hM hX hq hkk hat hna HSD HMS
  have HKB := Aside0.mk (fun (W : World) (S : List Int) => print_bytes (P := Try.prog) 9 23 5 Try.underlying9 Try.underlying23 Try.underlying5 (strOfNums S) W)
  have ha : (decide (0 < g) = false ∧ k = kk) ∨ (decide (0 < g) = true ∧ IntKind.i64.wrap (1 - k) = kk) := by
    rcases hmk with ⟨h1, h2⟩ | ⟨h1, h2, h3⟩
    · rw [if_pos h1] at hnk
      exact .inl ⟨decide_eq_false (by omega), h2.trans hnk.symm⟩
    · rw [if_neg (by omega)] at hnk
      exact .inr ⟨decide_eq_true (by omega), by rw [hnk]; exact IntWalk.i64_in _ (by omega)⟩
  have hr1 : ¬ r < l.length := fun h => hf (.inl h)
  have hg2 : ¬ 4294967295 ≤ g := fun h => hf (.inr h)
  have zq : (g == 4294967295) = false := by rw [beq_eq_false_iff_ne]; omega
  have HG0 := Aside0.mk (trivial : True)
  clear hnk hmk hf
  rcases ha with ⟨hg0, rfl⟩ | ⟨hg1, ek⟩
  all_goals
    go_enter Try.func57, Try.ntmps57
    go_wp2_with (first | (go_at_call 102; ((with_reducible refine HOF.out.mono ?_); rintro e w1 ⟨rfl, hb⟩; have HB1 := Aside0.mk hb; clear hb)) | (go_at_call 103; ((with_reducible refine (HRM.out _).mono ?_); rintro e w2 ⟨rfl, rfl⟩)) | (go_at_call 104; ((with_reducible refine (HPD.out _).mono ?_); rintro e w3 ⟨rfl, rfl⟩)))
    go_loopw [11, 12] (fun u i wr => ∃ j : Nat, j ≤ q ∧ i = .int .i64 (8 * (j : Int)) ∧ Aside0 (∃ os, RowPo wr w1.heap.size u os ∧ AllO wr (TS w1.heap.size u) os (wrsN at_ X j)) ∧ Aside0 (Below w1.heap.size w1 wr)) (fun _ i _ => (8 * q - intOf i).toNat)
    case atStart => exact ⟨0, Nat.zero_le _, rfl, ⟨[], Kd.R_nil _ _ _ _ _, trivial⟩, ⟨Below.refl _ _⟩⟩
    case round =>
      obtain ⟨j, hj, rfl, HR, HB⟩ := hrel
      obtain ⟨os, hrow, hall⟩ := HR.out
      obtain ⟨A9, c9, hu9⟩ := Kd.R_slice hrow
      subst hu9
      have HRW := Aside0.mk hrow
      have HAL := Aside0.mk hall
      have hol := hall.len
      have hwl : (wrsN at_ X j).length = j := by simp [wrsN]
      clear hrow hall HR
      by_cases hlt : j < q
      · have hsl := fun (W : World) => str_midD X (8 * j) 8 (8 * (j : Int)) (8 * (j : Int) + 8) (by omega) (by omega) (by omega) W
        have HWS := Aside0.mk (wrsN_succ at_ X j)
        have hSl : (cut X (8 * j) 8).length = 8 := cut_length (by omega)
        have HSB := Aside0.mk (cut_bys HXB.out (8 * j) 8)
        obtain ⟨S, hS⟩ : ∃ S, S = cut X (8 * j) 8 := ⟨_, rfl⟩
        rw [← hS] at hsl HWS hSl HSB
        have e4 : IntKind.i64.wrap ((at_ : Int) + 8 * j) = at_ + 8 * j := IntWalk.i64_in _ (by omega)
        have e5 : IntKind.i64.wrap (8 * (j : Int) + 8) = 8 * j + 8 := IntWalk.i64_in _ (by omega)
        obtain ⟨wb, hwb⟩ : ∃ wb, wb = Lib.bytesWorld wr 5 (strOfNums S) := ⟨_, rfl⟩
        have kb1 := HKB.out wr S
        have HRD := Aside0.mk (show ReadsInt wb .u8 (some ⟨wr.heap.size, 0, none⟩) S.length S from by
          have := bytes_reads wr 5 (strOfNums S) (by rw [strOfNums_size]; omega)
          rw [bytes_str HSB.out, strOfNums_size, ← hwb] at this
          exact this)
        have HBB := Aside0.mk (show Below wr.heap.size wr wb from by rw [hwb]; exact bytes_below (Below.refl wr.heap.size wr) (Nat.le_refl _) _ _)
        have hcap : S.length ≤ grownCap wr S.length 0 5 := grownCap_ge _ _ _ _
        rw [← hwb, strOfNums_size] at kb1
        obtain ⟨cc, hcc⟩ : ∃ cc, cc = grownCap wr S.length 0 5 := ⟨_, rfl⟩
        rw [← hcc] at kb1 hcap
        have hgs : wr.heap.size < wb.heap.size := by rw [hwb, Lib.bytesWorld_size]; omega
        have HS8 := Aside0.mk hSl
        clear hS hwb hcc hSl
        go_wp2_with ((with_reducible refine gate_bi (b := .append) (xs := #[.tmp 45, .tmp 56]) rfl ?_); go_must (refine Kd.R_append PoK (w0 := w1) w1.heap.size rfl (.tmp 45) (.tmp 56) 22 26 (.agg #[.int .i64 0, .int .i64 0, .int .i64 0, .slice none 0 0, .slice none 0 0]) 72 rfl Try.underlying22 info_op rfl (by decide) (by omega) (.slice A9 os.length c9) os ⟨0, (at_ : Int) + 8 * j, 0, some ⟨wr.heap.size, 0, none⟩, cc, S, none, 0, []⟩ [.int .i64 0, .int .i64 ((at_ : Int) + 8 * j), .int .i64 0, .slice (some ⟨wr.heap.size, 0, none⟩) S.length cc, .slice none 0 0] (fun _ => True) (fun _ => False) rfl rfl rfl (fun _ hk => hk.elim) (fun _ _ => trivial) (by exact Kd.R_below HRW.out HBB.out) (bel_step HB.out HBB.out) (bel_step HB.out HBB.out).size (by omega) ?_); intro v8 w8 hr8 hb8 hg8 hat8; have HV8 := Aside0.mk hr8; have HB8 := Aside0.mk hb8; have HG8 := Aside0.mk hg8; have HT8 := Aside0.mk hat8; clear hr8 hb8 hg8 hat8)
        go_roundw
        case rel =>
          refine ⟨j + 1, by omega, by go_num, ⟨_, HV8.out, ?_⟩, HB8⟩
          rw [HWS.out]
          exact add_ops HAL.out HBB.out (AllO.one (op_wr wb _ (at_ + 8 * j) (by omega) ((at_ : Int) + 8 * j) (by omega) wr.heap.size cc S HRD.out HSB.out hcap ⟨HB.out.size, fun e => by have := row_lt HRW.out e.symm; omega⟩)) HG8.out HT8.out
        case measure => simp [intOf]; omega
      · obtain rfl : j = q := by omega
        have HBX := Aside0.mk (below_alloc (Below.refl wr.heap.size wr) (.cells #[.int .i64 2, .int .i64 at_, .int .i64 (8 * (j : Int)), .slice none 0 0, .slice none 0 0, .int .i64 3, .int .i64 0, .int .i64 0, .slice none 0 0, .slice none 0 0] 26))
        go_wp2_with ((with_reducible refine gate_bi (b := .append) (xs := #[.tmp 58, .tmp 64]) rfl ?_); go_must (refine Kd.R_append_rows PoK (w0 := w1) w1.heap.size rfl (.tmp 58) (.tmp 64) 22 26 (.agg #[.int .i64 0, .int .i64 0, .int .i64 0, .slice none 0 0, .slice none 0 0]) 72 rfl Try.underlying22 info_op rfl (by decide) (by decide) (.slice A9 os.length c9) os [⟨2, at_, 8 * (j : Int), none, 0, [], none, 0, []⟩, ⟨3, 0, 0, none, 0, [], none, 0, []⟩] (some ⟨wr.heap.size, 0, none⟩) 2 2 (fun _ => True) (fun _ => False) rfl rfl (by exact Kd.R_below HRW.out HBX.out) (by exact po_lit wr _ _ rfl (by simp)) (fun _ _ h => h) (fun _ h => h.elim) (fun _ _ => trivial) (by exact bel_step HB.out HBX.out) (by exact (bel_step HB.out HBX.out).size) (by first | omega | (simp; omega)) ?_); intro v4 w4 hr4 hb4 hg4 hat4)
        have HV4 := Aside0.mk hr4
        have HB4 := Aside0.mk hb4
        have HA4 := Aside0.mk (add_ops HAL.out HBX.out (AllO.two (op_fl _ _ at_ (8 * j) (by omega) (by omega) at_ (8 * (j : Int)) rfl (by omega)) (op_fe _ _)) hg4 hat4)
        clear hr4 hb4 hg4 hat4
        go_wp2_with (first | (go_at_call 105; ((with_reducible refine (HMK.out _).mono ?_); rintro e w5 ⟨rfl, hb5⟩); obtain ⟨wb5, hwb5⟩ : ∃ wb, wb = Lib.bytesWorld w5 5 (strOfNums M) := ⟨_, rfl⟩; have kb5 := HKB.out w5 M; rw [← hwb5, strOfNums_size] at kb5; obtain ⟨c5, hc5⟩ : ∃ cc, cc = grownCap w5 M.length 0 5 := ⟨_, rfl⟩; rw [← hc5] at kb5; have HW5 := Aside0.mk hwb5; have HC5 := Aside0.mk hc5; have HB5 := Aside0.mk hb5; have HBB5 := Aside0.mk (show Below w4.heap.size w4 wb5 from by rw [hwb5]; exact bel_step hb5 (bytes_below (Below.refl w5.heap.size w5) (Nat.le_refl _) _ _)); have HBY5 := Aside0.mk (below_alloc (Below.refl wb5.heap.size wb5) (.cells #[.int .i64 0, .int .i64 0, .int .i64 0, .slice (some ⟨w5.heap.size, 0, none⟩) M.length c5, .slice none 0 0, .int .i64 2, .int .i64 0, .int .i64 8, .slice none 0 0, .slice none 0 0] 26)); clear hb5 hwb5 hc5) | ((with_reducible refine gate_bi (b := .append) (xs := #[.tmp 66, .tmp 74]) rfl ?_); go_must (refine Kd.R_append_rows PoK (w0 := w1) w1.heap.size rfl (.tmp 66) (.tmp 74) 22 26 (.agg #[.int .i64 0, .int .i64 0, .int .i64 0, .slice none 0 0, .slice none 0 0]) 72 rfl Try.underlying22 info_op rfl (by decide) (by decide) v4 (os ++ [⟨2, at_, 8 * (j : Int), none, 0, [], none, 0, []⟩, ⟨3, 0, 0, none, 0, [], none, 0, []⟩]) [⟨0, 0, 0, some ⟨w5.heap.size, 0, none⟩, c5, M, none, 0, []⟩, ⟨2, 0, 8, none, 0, [], none, 0, []⟩] (some ⟨wb5.heap.size, 0, none⟩) 2 2 (fun _ => True) (fun _ => False) rfl rfl (by exact Kd.R_below (Kd.R_below HV4.out HBB5.out) HBY5.out) (by exact po_lit wb5 _ _ rfl (by simp)) (fun _ _ h => h) (fun _ h => h.elim) (fun _ _ => trivial) (by exact bel_step (bel_step HB4.out HBB5.out) HBY5.out) (by exact (bel_step (bel_step HB4.out HBB5.out) HBY5.out).size) (by first | omega | (simp; omega)) ?_); intro v6 w6 hr6 hb6 hg6 hat6; have HV6 := Aside0.mk hr6; have HB6 := Aside0.mk hb6; have HG6 := Aside0.mk hg6; have HT6 := Aside0.mk hat6; clear hr6 hb6 hg6 hat6) | ((with_reducible refine gate_bi (b := .append) (xs := #[.tmp 76, .tmp 78]) rfl ?_); go_must (refine Kd.R_append PoK (w0 := w1) w1.heap.size rfl (.tmp 76) (.tmp 78) 22 26 (.agg #[.int .i64 0, .int .i64 0, .int .i64 0, .slice none 0 0, .slice none 0 0]) 72 rfl Try.underlying22 info_op rfl (by decide) (by omega) v6 ((os ++ [⟨2, at_, 8 * (j : Int), none, 0, [], none, 0, []⟩, ⟨3, 0, 0, none, 0, [], none, 0, []⟩]) ++ [⟨0, 0, 0, some ⟨w5.heap.size, 0, none⟩, c5, M, none, 0, []⟩, ⟨2, 0, 8, none, 0, [], none, 0, []⟩]) ⟨3, 0, 0, none, 0, [], none, 0, []⟩ [.int .i64 3, .int .i64 0, .int .i64 0, .slice none 0 0, .slice none 0 0] (fun _ => True) (fun _ => False) rfl rfl rfl (fun _ hk => hk.elim) (fun _ _ => trivial) HV6.out HB6.out HB6.out.size (by first | omega | (simp; omega)) ?_); intro v7 w7 hr7 hb7 hg7 hat7))
        have HCC5 := Aside0.mk (show M.length ≤ c5 from by rw [HC5.out]; exact grownCap_ge _ _ _ _)
        have HR5 := Aside0.mk (show ReadsInt wb5 .u8 (some ⟨w5.heap.size, 0, none⟩) M.length M from by
          rw [HW5.out]
          have := bytes_reads w5 5 (strOfNums M) (by rw [strOfNums_size, hml.out]; decide)
          rw [bytes_str HMB.out, strOfNums_size] at this
          exact this)
        have HA6 := Aside0.mk (add_ops HA4.out (bel_step HBB5.out HBY5.out) (AllO.two (op_wr _ _ 0 (by omega) 0 rfl w5.heap.size c5 M (HR5.out.below HBY5.out) HMB.out HCC5.out ⟨Nat.le_trans HB4.out.size HB5.out.size, fun e => by have := row_lt HV4.out e.symm; have := HB5.out.size; omega⟩) (op_fl _ _ 0 8 (by omega) (by omega) 0 8 rfl rfl)) HG6.out HT6.out)
        have HV7 := Aside0.mk hr7
        have HB7 := Aside0.mk hb7
        have HA7 := Aside0.mk (add_ops HA6.out (Below.refl _ _) (AllO.one (op_fe _ _)) hg7 hat7)
        clear hr7 hb7 hg7 hat7
        go_ret2
        refine ⟨v7, _, rfl, Kd.R_lower HV7.out HB1.out.size, ?_, bel_step HB1.out HB7.out⟩
        have h7 := HA7.out
        simp only [List.append_assoc] at h7
        refine AllO.go (w := w7) (T := TS w1.heap.size v7) (fun k hk ht => ⟨rfl, Nat.le_trans HB1.out.size ht.1, ht.2⟩) ?_
        simpa using h7
end Go.Proofs.Ytbfogcckbhkciaa.Hand
namespace Go.Proofs.Ytbfogcckbhkciaa.Hand
open Go.RowKit Go.ChangeShapes Go.WideShapes Go.ChangeAt Go.Proofs.YtbfogcckbhkciaaW.PrintWords
set_option linter.unusedVariables false
theorem cap_le {H : Type} {enc : TypeId × Value → H} {W : World} {spare : Nat → Bool} {held : Bool} {t e : TypeId} (ht : Try.prog.underlying t = some (.slice e)) {n len cap : Nat} {a : Option Addr} {y : DataW H × List MemPlace}
    (hf : DataW.trod enc Try.prog W 0 spare held n t [.slice a len cap] = some y) : len ≤ cap := by
  rcases Go.Deep.open_slice ht hf with ⟨hcs, _⟩ | ⟨x, l, c, m, n, D, Pl, hcs, _, hl, _⟩
  · simp at hcs
    omega
  · simp at hcs
    omega
theorem po_cells2 {H : Type} {enc : TypeId × Value → H} {w : World} {spare : Nat → Bool} {held : Bool} {n : Nat} {cs : List Value} {y : DataW H × List MemPlace} (h : DataW.trod enc Try.prog w 0 spare held n 26 cs = some y) : ∃ x : OpP, cs = encPo x ∧ (WfPo w x ∧ x.ks.length ≤ x.c2) := by
  obtain ⟨x, rfl, hw⟩ := po_cells h
  refine ⟨x, rfl, hw, ?_⟩
  obtain ⟨xs, m, _, rfl, hlen, hxs, hf⟩ := DataW.trod_struct Try.underlying26 h
  have h4 : DataW.trod enc Try.prog w 0 spare held m 24 (((encPo x).drop 4).take (Try.prog.cellsOf 24)) = xs[4]? := hf 4 _ rfl
  obtain ⟨y4, e4⟩ : ∃ y0, xs[4]? = some y0 := ⟨_, List.getElem?_eq_getElem (by rw [hxs]; decide)⟩
  rw [e4, show Try.prog.cellsOf 24 = 1 by kernel_rfl] at h4
  exact cap_le Try.underlying24 h4
theorem open_pops2 {H : Type} {enc : TypeId × Value → H} {w : World} {spare : Nat → Bool} {held : Bool} {A : Option Addr} {len cap : Nat} {d : DataW H} {ps : List MemPlace}
    (h : DataW.Trod enc Try.prog w 0 spare held 22 (.slice A len cap) d ps) : ∃ os : List OpP, len = os.length ∧ PoK.C w A os.length os ∧ ∀ o ∈ os, WfPo w o ∧ o.ks.length ≤ o.c2 :=
  open_flat Try.underlying22 (by kernel_rfl) (fun n cs y h => po_cells2 h) h
end Go.Proofs.Ytbfogcckbhkciaa.Hand
namespace Go.Proofs.Ytbfogcckbhkciaa.Hand
open Go.RowKit Go.Maps Go.Proofs.YtbfogcckbhkciaaW.PrintWords Go.Proofs.YtbfogcckbhkciaaW.PrintLast Go.Proofs.YtbfogcckbhkciaaW.PrintMore Go.Proofs.Ytbfogcckbhkciaa.PHandRP
set_option linter.unusedVariables false
set_option linter.unusedSimpArgs false
theorem readsD64 {w : World} {base : Nat} {ok : Nat → Prop} {v : Value} {xs : List Int} (h : Kd.R (Kd.int .i64) 3 w base ok v xs) : ∃ A c, v = .slice A xs.length c ∧ ReadsInt w .i64 A xs.length xs := own_reads (Kd.own_of_R h)
theorem po_row {w : World} {base : Nat} {v : Value} {os : List OpP} (h : RowPo w base v os) (h0 : 0 < os.length) : ∃ g o c, v = .slice (some ⟨g, o, none⟩) os.length c ∧ base ≤ g ∧ ∀ k x, os[k]? = some x → ∀ i, i < 5 → w.cell? ⟨g, o + k * 5 + i, none⟩ = (encPo x)[i]? := by
  obtain ⟨A, c, e, _, hC⟩ := Kd.R_reads h
  have hx : os[0]? = some (os[0]'h0) := List.getElem?_eq_getElem _
  obtain ⟨g, o, hA, _⟩ := C_at hC (by decide) hx
  subst hA
  refine ⟨g, o, c, e, ?_, fun k x hk => ?_⟩
  · exact ((Kd.R_bound h).1 g (by rw [e]; rfl)).2.1
  · obtain ⟨g', o', hA', h'⟩ := C_at hC (by decide) hk
    injection hA' with hA'
    injection hA' with e1 e2 _
    subst e1 e2
    exact h'
theorem three_ways {w : World} {T : Nat → Prop} {p : Nat} {u : Value} {s f : Nat} {d : Dev} {x : StepV} {m : StepM} (h : HasD w p u s f d) (hst : IsSt w T p x m) (hok : OkM m) :
    (∃ x1 x2 x3, x = .wr x1 x2 x3 ∧ Aside0 (Calls Try.prog 96 #[.pointer (some ⟨x1, 0, none⟩), .pointer (some ⟨x2, 0, none⟩), .pointer (some ⟨x3, 0, none⟩)] w (StepsD w p u s f d m))) ∨
    (∃ x1 x2 x3, x = .fl x1 x2 x3 ∧ Aside0 (Calls Try.prog 98 #[.pointer (some ⟨x1, 0, none⟩), .pointer (some ⟨x2, 0, none⟩), .pointer (some ⟨x3, 0, none⟩)] w (StepsD w p u s f d m))) ∨
    (x = .fe p ∧ Aside0 (Calls Try.prog 24 #[.pointer (some ⟨p, 0, none⟩)] w (StepsD w p u s f d m))) := by
  cases x with
  | wr bd ba bx =>
    cases m with
    | wr a y => exact .inl ⟨bd, ba, bx, rfl, ⟨step_wr w p u s f _ _ bd ba bx a y h hst hok⟩⟩
    | fl a n => exact hst.elim
    | fe => exact hst.elim
  | fl bd ba bn =>
    cases m with
    | fl a n => exact .inr (.inl ⟨bd, ba, bn, rfl, ⟨step_fl w p u s f _ _ bd ba bn a n h hst⟩⟩)
    | wr a n => exact hst.elim
    | fe => exact hst.elim
  | fe q =>
    cases m with
    | fe =>
      obtain rfl : q = p := hst
      exact .inr (.inr ⟨rfl, ⟨step_fe w q u s f _ h⟩⟩)
    | wr a n => exact hst.elim
    | fl a n => exact hst.elim
theorem stepsD_count (d : Dev) (l : List Int) : (stepsD d l).length = (padL l).length / 8 + 5 := by rw [stepsD, List.length_append, wrsN, List.length_map, List.length_range]; rfl
theorem stepsD_five (d : Dev) (l : List Int) : 5 ≤ (stepsD d l).length := by rw [stepsD, List.length_append]; simp
set_option maxRecDepth 100000 in
theorem dall_long (A0 : Option Addr) (c0 : Nat) (B : List Int) (A1 : Option Addr) (c1 : Nat) (os : List OpP) (A2 : Option Addr) (c2 : Nat) (l : List Int) (w : World) (hB : ReadsInt w .u8 A0 B.length B) (hby : Bys B) (ho : PoK.C w A1 os.length os) (hw : ∀ o ∈ os, WfPo w o ∧ o.ks.length ≤ o.c2) (hx : ReadsInt w .u8 A2 l.length l) (hxb : Bys l) (h : 400 < l.length) (hll : l.length ≤ 140737488351232) : Calls Try.prog 19 #[.slice A0 B.length c0, .slice A1 os.length c1, .slice A2 l.length c2] w fun e w' => e = .returned (.bool true) ∧ Below w.heap.size w w' := by
  have HMD := Aside0.mk (made19_calls w A0 c0 B A1 c1 os hB hby ho (fun o h => (hw o h).1) (fun o h => (hw o h).2))
  clear hB hby ho hw hx hxb
  go_enter Try.func19, Try.ntmps19
  go_wp2_with (first | (go_at_call 55; ((with_reducible refine HMD.out.mono ?_); rintro e w1 (⟨rfl, hb1⟩ | ⟨p, u, s, f, v, d, n, b, rfl, hd, hl, hv, how, hbs, hp, hv1, hb1⟩))) | (go_at_call 48; ((with_reducible refine (dk_alive _).mono ?_); rintro e w3 ⟨rfl, hb⟩; have HB3 := Aside0.mk (bel_step hb1 hb); clear hb)))
  all_goals
    go_ret
    exact ⟨rfl, HB3.out⟩
set_option maxRecDepth 100000 in
set_option maxHeartbeats 8000000 in
theorem dall_go (A0 : Option Addr) (c0 : Nat) (B : List Int) (A1 : Option Addr) (c1 : Nat) (os : List OpP) (A2 : Option Addr) (c2 : Nat) (l : List Int) (w : World) (hB : ReadsInt w .u8 A0 B.length B) (hby : Bys B) (ho : PoK.C w A1 os.length os) (hw : ∀ o ∈ os, WfPo w o ∧ o.ks.length ≤ o.c2) (hx : ReadsInt w .u8 A2 l.length l) (hxb : Bys l) (h : ¬ 400 < l.length) : Calls Try.prog 19 #[.slice A0 B.length c0, .slice A1 os.length c1, .slice A2 l.length c2] w fun e w' => e = .returned (.bool true) ∧ Below w.heap.size w w' := by
  have HMD := Aside0.mk (made19_calls w A0 c0 B A1 c1 os hB hby ho (fun o h => (hw o h).1) (fun o h => (hw o h).2))
  have HX := Aside0.mk hx
  have HXB := Aside0.mk hxb
  clear hB hby ho hw hx hxb
  go_enter Try.func19, Try.ntmps19
  go_wp2_with (go_at_call 55; ((with_reducible refine HMD.out.mono ?_); rintro e w1 (⟨rfl, hb1⟩ | ⟨p, u, s, f, v, d, n, b, rfl, hd, hl, hv, how, hbs, hp, hv1, hb1⟩)))
  · go_wp2_with (go_at_call 48; ((with_reducible refine (dk_alive _).mono ?_); rintro e w3 ⟨rfl, hb⟩; have HB3 := Aside0.mk (bel_step hb1 hb); clear hb))
    go_ret
    exact ⟨rfl, HB3.out⟩
  have hn : n ≤ 8192 := by have := hd.ok.max; omega
  have HD1 := Aside0.mk hd
  have HV1 := Aside0.mk hv
  have HL := Aside0.mk hl
  have HOW := Aside0.mk how
  have HBS := Aside0.mk hbs
  have HOB := Aside0.mk hv1
  have HB1 := Aside0.mk hb1
  have HLR := Aside0.mk (fun (W : World) (hh : RowV W b v d n) => d19load_calls HD1.out.ok hh HL.out)
  clear hd hl hv how hbs hp hv1 hb1
  obtain ⟨Z, hZ⟩ : ∃ Z, Z = loadL d := ⟨_, rfl⟩
  obtain ⟨g, hg⟩ : ∃ g, g = (dmark d).1 := ⟨_, rfl⟩
  have HLD := Aside0.mk (show Calls Try.prog 51 #[.pointer (some ⟨p, 0, none⟩)] w1 (fun e w' => ∃ A c, e = .returned (.tuple #[.slice A Z.length c, .int .i64 g, .int .i64 (if g = 0 then 190 else 0)]) ∧ ReadsInt w' .u8 A Z.length Z ∧ Below w1.heap.size w1 w') from by
    by_cases h0 : (dmark d).1 = 0
    · have e1 : Z = [] := by rw [hZ]; exact if_pos h0
      rw [e1, hg, h0]
      exact (load_none w1 p u s f d HD1.out h0).mono (fun e w' h => ⟨none, 0, h.1, ⟨rfl, by simp, fun h => absurd h (by simp)⟩, h.2⟩)
    · rw [hZ, hg, if_neg h0]
      exact load_some w1 p u s f d HD1.out h0)
  rw [← hZ, ← hg] at HLR
  obtain ⟨er, her⟩ : ∃ er : Int, er = if g = 0 then 190 else 0 := ⟨_, rfl⟩
  rw [← her] at HLD HLR
  clear hZ hg her
  by_cases hf : FullD d l
  · have HBG := Aside0.mk (fun (W : World) (hh : HasD W p u s f d) => begin_full W p u s f d A2 c2 l hh (by omega) hf)
    have HST := Aside0.mk (fun (W : World) (hh : RowV W b v d n) => d19steps_full HD1.out.ok hh HL.out l HXB.out (by omega) hf)
    clear hf
    go_wp2_with (first | (go_at_call 51; ((with_reducible refine HLD.out.mono ?_); rintro e w2 ⟨A7, c7, rfl, hr7, hb⟩; have HD2 := Aside0.mk (HD1.out.move hb); have HV2 := Aside0.mk (show RowV w2 b v d n from Kd.V_below HV1.out hb); have HB2 := Aside0.mk (bel_step HB1.out hb); have HR2 := Aside0.mk hr7; clear hb hr7)) | (go_at_call 56; ((with_reducible refine (HLR.out _ HV2.out).mono ?_); rintro e w3 ⟨rfl, hb⟩; have HD3 := Aside0.mk (HD2.out.move hb); have HV3 := Aside0.mk (show RowV w3 b v d n from Kd.V_below HV2.out hb); have HB3 := Aside0.mk (bel_step HB2.out hb); have hcv3 := conv_n (c := c7) (HR2.out.below hb); clear hb)) | (go_at_call 54; ((with_reducible refine (HBG.out _ HD3.out).mono ?_); rintro e w4 ⟨rfl, hb⟩; have HV4 := Aside0.mk (show RowV w4 b v d n from Kd.V_below HV3.out hb); have HB4 := Aside0.mk (bel_step HB3.out hb); have hcv4 := conv_n (c := c2) (HX.out.below HB4.out); clear hb)) | (go_at_call 57; ((with_reducible refine (HST.out _ HV4.out).mono ?_); rintro e w5 ⟨rfl, hb⟩; have HB5 := Aside0.mk (bel_step HB4.out hb); clear hb)))
    go_loopw [91] (fun i wr => i = .int .i64 0 ∧ Aside0 (Below w.heap.size w wr)) (fun _ _ => 0)
    case atStart => exact ⟨rfl, HB5⟩
    case round =>
      obtain ⟨rfl, HB⟩ := hrel
      go_wp2_with (go_at_call 48; ((with_reducible refine (dk_alive _).mono ?_); rintro e w9 ⟨rfl, hb⟩; have HB9 := Aside0.mk (bel_step HB.out hb); clear hb))
      go_ret
      exact ⟨rfl, HB9.out⟩
  · have HF0 := Aside0.mk hf
    have HST := Aside0.mk (fun (W : World) (hh : RowV W b v d n) => d19steps_go HD1.out.ok hh HL.out l HXB.out (by omega) hf)
    have HOK := Aside0.mk (stepsD_okm HXB.out hf)
    have HS9 := Aside0.mk (show (stepsD d l).length ≤ 9000 by rw [stepsD_count, padL_length]; omega)
    have HS5 := Aside0.mk (stepsD_five d l)
    obtain ⟨ms, hms⟩ : ∃ ms, ms = stepsD d l := ⟨_, rfl⟩
    rw [← hms] at HST HOK HS9 HS5
    have HBG := Aside0.mk (fun (W : World) (hh : HasD W p u s f d) (hx : ReadsInt W .u8 A2 l.length l) => show Calls Try.prog 54 #[.pointer (some ⟨p, 0, none⟩), .slice A2 l.length c2] W (fun e w' => ∃ (u : Value) (xs : List StepV), e = .returned (.tuple #[u, .int .i64 0]) ∧ RowS w' W.heap.size u xs ∧ IsAll w' (fun b => W.heap.size ≤ b) p xs ms ∧ Below W.heap.size W w') from by rw [hms]; exact begin_good W p u s f d A2 c2 l hh hx HF0.out)
    clear hf hms
    go_wp2_with (first | (go_at_call 51; ((with_reducible refine HLD.out.mono ?_); rintro e w2 ⟨A7, c7, rfl, hr7, hb⟩; have HD2 := Aside0.mk (HD1.out.move hb); have HV2 := Aside0.mk (show RowV w2 b v d n from Kd.V_below HV1.out hb); have HB2 := Aside0.mk (bel_step HB1.out hb); have HR2 := Aside0.mk hr7; have HU2 := Aside0.mk hb.size; clear hb hr7)) | (go_at_call 56; ((with_reducible refine (HLR.out _ HV2.out).mono ?_); rintro e w3 ⟨rfl, hb⟩; have HD3 := Aside0.mk (HD2.out.move hb); have HV3 := Aside0.mk (show RowV w3 b v d n from Kd.V_below HV2.out hb); have HB3 := Aside0.mk (bel_step HB2.out hb); have hcv3 := conv_n (c := c7) (HR2.out.below hb); have HU3 := Aside0.mk (Nat.le_trans HU2.out hb.size); clear hb)) | (go_at_call 54; ((with_reducible refine (HBG.out _ HD3.out (HX.out.below HB3.out)).mono ?_); rintro e w4 ⟨su, xs, rfl, hrow, hall, hb⟩; have HD4 := Aside0.mk (HD3.out.move hb); have HV4 := Aside0.mk (show RowV w4 b v d n from Kd.V_below HV3.out hb); have HB4 := Aside0.mk (bel_step HB3.out hb); have hcv4 := conv_n (c := c2) (HX.out.below HB4.out); have HU4 := Aside0.mk hb.size; have HAL := Aside0.mk hall; have hxl : xs.length = ms.length := hall.len; obtain ⟨g9, cu, rfl, hg9, hcell⟩ := row_cell hrow (by have := HS5.out; omega); have HCE := Aside0.mk hcell; have HG := Aside0.mk hg9; clear hrow hall hb hcell hg9)) | (go_at_call 57; ((with_reducible refine (HST.out _ HV4.out).mono ?_); rintro e w5 ⟨ov, qs, rfl, hor, hao, hb⟩; have hql : qs.length = ms.length := hao.len; have HAO := Aside0.mk hao; obtain ⟨g8, o8, c8, rfl, hg8, hcell⟩ := po_row hor (by have := HS5.out; omega); have HQE := Aside0.mk hcell; have HG8 := Aside0.mk hg8; have HD5 := Aside0.mk (HD4.out.move hb); have HV5 := Aside0.mk (show RowV w5 b v d n from Kd.V_below HV4.out hb); have HB5 := Aside0.mk (bel_step HB4.out hb); have HA5 := Aside0.mk (show IsAll w5 (fun b => w3.heap.size ≤ b) p xs ms from HAL.out.move (S := fun _ => False) (Fr.of_below hb _) (fun _ _ h => h)); have HC5 := Aside0.mk (fun k x hx => bel_cell hb (HCE.out k x hx)); have HU5 := Aside0.mk hb.size; rw [hql, ← hxl]; clear hb hor hao hcell hg8)))
    have hTo : ∀ k, w1.heap.size ≤ k → ¬ OwnD u s f k := fun k hk ho => absurd (Nat.lt_of_lt_of_le (HOW.out k ho) HBS.out) (Nat.not_lt.2 hk)
    have HTO := Aside0.mk hTo
    have hx9 : xs.length ≤ 9000 := by have := HS9.out; omega
    clear hTo
    go_loopw [8, 91] (fun rv i wr => ∃ k : Nat, k ≤ xs.length ∧ i = .int .i64 (k : Int) ∧ Aside0 (RowV wr b rv (d.steps (ms.take k)) n) ∧ Aside0 (HasD wr p u s f (d.steps (ms.take k))) ∧ Aside0 (Fr (OwnD u s f) w5 wr)) (fun _ i _ => (xs.length - intOf i).toNat)
    case atStart => exact ⟨0, Nat.zero_le _, rfl, HV5, HD5, ⟨Fr.refl _ _⟩⟩
    case round =>
      obtain ⟨k, hk, rfl, HV, HD, HF⟩ := hrel
      have HB := Aside0.mk (HB5.out.trans (HF.out.below _ HB5.out.size (fun b hb => HOB.out b hb)))
      by_cases hlt : k < xs.length
      · obtain ⟨x, hx⟩ : ∃ x, xs[k]? = some x := ⟨_, List.getElem?_eq_getElem hlt⟩
        obtain ⟨m, hm, hst1⟩ := HA5.out.get hx
        obtain ⟨o, hq, hop⟩ := HAO.out.get hm
        have hst := hst1.move HF.out (fun b hb => HTO.out b (Nat.le_trans HU3.out hb))
        have HXC := Aside0.mk (HF.out.cell (HC5.out k x hx) (HTO.out _ (Nat.le_trans HU3.out HG.out)))
        have HTK := Aside0.mk (take_steps (d := d) hm)
        have hok := HOK.out m (List.mem_of_getElem? hm)
        have HOP := Aside0.mk hop
        have HQC := Aside0.mk (fun i hi => (HQE.out k o hq) i hi)
        have HQG := Aside0.mk (HTO.out g8 (Nat.le_trans HU3.out (Nat.le_trans HU4.out HG8.out)))
        clear hst1 hm hx hq hop
        obtain ⟨oz, oa, ol, oA1, oc1, obs, oA2, oc2, oks⟩ := o
        obtain ⟨A6, c6, hu6⟩ := Kd.V_slice HV.out
        subst hu6
        rw [wdL_length] at HV ⊢
        have HDK := Aside0.mk (Dev.steps_ok (ms := ms.take k) HD1.out.ok (fun m hm => HOK.out m (List.mem_of_mem_take hm)))
        obtain ⟨dk, hdk⟩ : ∃ dk, dk = d.steps (ms.take k) := ⟨_, rfl⟩
        rw [← hdk] at HV HD HTK HDK
        obtain ⟨dn, hdn⟩ : ∃ dn, dn = d.steps (ms.take (k + 1)) := ⟨_, rfl⟩
        rw [← hdn] at HTK
        have HDN := Aside0.mk hdn
        have HLN := Aside0.mk (show dn.B.length = 8 * n from by rw [HTK.out, (Dev.step_ok HDK.out.1 hok).2, HDK.out.2, HL.out])
        have HDD := Aside0.mk (fun (W : World) (hF : Fr (OwnD u s f) w5 W) (hV : RowV W b (.slice A6 n c6) dk n) => show Calls Try.prog 58 #[.slice A6 n c6, .agg #[.int .i64 oz, .int .i64 oa, .int .i64 ol, .slice oA1 obs.length oc1, .slice oA2 oks.length oc2]] W (fun e w' => ∃ (v' : Value) (t : ByteArray) (e2 : Int), e = .returned (.tuple #[v', .string t, .int .i64 e2]) ∧ RowV w' b v' dn n ∧ Below W.heap.size W w') from by
          have hx := (HOP.out.go (w1 := W) (T' := fun _ => True) (fun j hj ht => ⟨hF.block j hj (HTO.out j (Nat.le_trans HU3.out (Nat.le_trans HU4.out ht.1))), trivial⟩))
          have h9 := r3do_calls HDK.out.1 (HDK.out.2.trans HL.out) hV (Nat.le_trans HBS.out (Nat.le_trans HU3.out (Nat.le_trans HU4.out (Nat.le_trans HU5.out hF.size)))) ⟨oz, oa, ol, oA1, oc1, obs, oA2, oc2, oks⟩ hx.wf hx.ck hx.z1
          rw [hx.st dk, ← HTK.out] at h9
          exact h9)
        rcases three_ways HD.out hst hok with ⟨x1, x2, x3, rfl, HDO⟩ | ⟨x1, x2, x3, rfl, HDO⟩ | ⟨rfl, HDO⟩
        all_goals
          clear hst hok hdk hdn
          have hxc := HXC.out
          simp only [encS] at hxc
          go_wp2_with (first | (go_at_call 96; ((with_reducible refine HDO.out.mono ?_); rintro e w9 ⟨rfl, hd, hf⟩; rw [← HTK.out] at hd; (have HD9 := Aside0.mk hd; have HF9 := Aside0.mk (HF.out.trans' hf); have HV9 := Aside0.mk (show RowV w9 b (.slice A6 n c6) dk n from Kd.V_step HV.out (fun j hj hlt => hf.block j hlt (fun ho => absurd (HOW.out j ho) (Nat.not_lt.2 hj)))); have b0 : w9.cell? ⟨g8, o8 + k * 5, none⟩ = some (.int .i64 oz) := HF9.out.cell (HQC.out 0 (by decide)) HQG.out; have b1 : w9.cell? ⟨g8, o8 + k * 5 + 1, none⟩ = some (.int .i64 oa) := HF9.out.cell (HQC.out 1 (by decide)) HQG.out; have b2 : w9.cell? ⟨g8, o8 + k * 5 + 2, none⟩ = some (.int .i64 ol) := HF9.out.cell (HQC.out 2 (by decide)) HQG.out; have b3 : w9.cell? ⟨g8, o8 + k * 5 + 3, none⟩ = some (.slice oA1 obs.length oc1) := HF9.out.cell (HQC.out 3 (by decide)) HQG.out; have b4 : w9.cell? ⟨g8, o8 + k * 5 + 4, none⟩ = some (.slice oA2 oks.length oc2) := HF9.out.cell (HQC.out 4 (by decide)) HQG.out; clear hd hf))) | (go_at_call 98; ((with_reducible refine HDO.out.mono ?_); rintro e w9 ⟨rfl, hd, hf⟩; rw [← HTK.out] at hd; (have HD9 := Aside0.mk hd; have HF9 := Aside0.mk (HF.out.trans' hf); have HV9 := Aside0.mk (show RowV w9 b (.slice A6 n c6) dk n from Kd.V_step HV.out (fun j hj hlt => hf.block j hlt (fun ho => absurd (HOW.out j ho) (Nat.not_lt.2 hj)))); have b0 : w9.cell? ⟨g8, o8 + k * 5, none⟩ = some (.int .i64 oz) := HF9.out.cell (HQC.out 0 (by decide)) HQG.out; have b1 : w9.cell? ⟨g8, o8 + k * 5 + 1, none⟩ = some (.int .i64 oa) := HF9.out.cell (HQC.out 1 (by decide)) HQG.out; have b2 : w9.cell? ⟨g8, o8 + k * 5 + 2, none⟩ = some (.int .i64 ol) := HF9.out.cell (HQC.out 2 (by decide)) HQG.out; have b3 : w9.cell? ⟨g8, o8 + k * 5 + 3, none⟩ = some (.slice oA1 obs.length oc1) := HF9.out.cell (HQC.out 3 (by decide)) HQG.out; have b4 : w9.cell? ⟨g8, o8 + k * 5 + 4, none⟩ = some (.slice oA2 oks.length oc2) := HF9.out.cell (HQC.out 4 (by decide)) HQG.out; clear hd hf))) | (go_at_call 24; ((with_reducible refine HDO.out.mono ?_); rintro e w9 ⟨rfl, hd, hf⟩; rw [← HTK.out] at hd; (have HD9 := Aside0.mk hd; have HF9 := Aside0.mk (HF.out.trans' hf); have HV9 := Aside0.mk (show RowV w9 b (.slice A6 n c6) dk n from Kd.V_step HV.out (fun j hj hlt => hf.block j hlt (fun ho => absurd (HOW.out j ho) (Nat.not_lt.2 hj)))); have b0 : w9.cell? ⟨g8, o8 + k * 5, none⟩ = some (.int .i64 oz) := HF9.out.cell (HQC.out 0 (by decide)) HQG.out; have b1 : w9.cell? ⟨g8, o8 + k * 5 + 1, none⟩ = some (.int .i64 oa) := HF9.out.cell (HQC.out 1 (by decide)) HQG.out; have b2 : w9.cell? ⟨g8, o8 + k * 5 + 2, none⟩ = some (.int .i64 ol) := HF9.out.cell (HQC.out 2 (by decide)) HQG.out; have b3 : w9.cell? ⟨g8, o8 + k * 5 + 3, none⟩ = some (.slice oA1 obs.length oc1) := HF9.out.cell (HQC.out 3 (by decide)) HQG.out; have b4 : w9.cell? ⟨g8, o8 + k * 5 + 4, none⟩ = some (.slice oA2 oks.length oc2) := HF9.out.cell (HQC.out 4 (by decide)) HQG.out; clear hd hf))) | (go_at_call 58; ((with_reducible refine (HDD.out _ HF9.out HV9.out).mono ?_); rintro e w10 ⟨v10, t10, e10, rfl, hv, hb⟩; have HV10 := Aside0.mk hv; have HD10 := Aside0.mk (HD9.out.move hb); have HF10 := Aside0.mk (HF9.out.then_below hb); clear hv hb)))
          refine start_ (n := 14) (S := fun w' => True) (ds := []) #[false, false, false, false, false, false, false, false, false, false, false, false, false, false] (by kernel_rfl) rfl rfl trivial (fun hHeld => ?_)
          refine pure_ (i := 0) (N := some 109) (v := ?_) (a' := ?_) #[true, false, false, false, false, false, false, false, false, false, false, false, false, false] rfl rfl (by kernel_rfl) (fun _ _ _ h => h) (Or.inl ⟨by rfl, ?_⟩) ?_ ?_
          rotate_left
          · intro w'
            go_simp
            with_reducible rfl
          rotate_left
          · simp only [Act.put, List.setIfInBounds_toArray, List.set_cons_zero, List.set_cons_succ, i64_w, i32_w]
            rfl
          refine pure_ (i := 3) (N := some 112) (v := ?_) (a' := ?_) #[true, false, false, true, false, false, false, false, false, false, false, false, false, false] rfl rfl (by kernel_rfl) (fun _ _ _ h => h) (Or.inl ⟨by rfl, ?_⟩) ?_ ?_
          rotate_left
          · intro w'
            go_simp
            with_reducible rfl
          rotate_left
          · simp only [Act.put, List.setIfInBounds_toArray, List.set_cons_zero, List.set_cons_succ, i64_w, i32_w]
            rfl
          refine one_ (i := 1) (N := some 110) #[true, true, false, true, false, false, false, false, false, false, false, false, false, false] rfl rfl (by kernel_rfl) (by decide) (fun K hK => ?_)
          refine goes_ Try.func22 (by kernel_rfl) rfl #[.pointer (some ⟨p, 0, none⟩)] (by rfl) rfl rfl (by simp only [List.map_toArray, List.map_cons, List.map_nil]; rfl) ?_
          with_reducible refine (bytes_calls w10.drew p u s f dn (HD10.out.move (Below.refl _ _).drew)).mono ?_
          rintro e w15 ⟨u5, rfl, hr5, hb5⟩
          refine ⟨_, rfl, ?_⟩
          obtain ⟨A5, c5, rfl, _, hR5⟩ := reads_own2 hr5
          have HR15 := Aside0.mk hR5
          have HB15 := Aside0.mk (bel_step (Below.refl w10.heap.size w10).drew hb5)
          clear hr5 hb5 hR5
          refine hK.out _ _ trivial (fun hHeld => ?_)
          clear hK K
          refine norm_ (a' := ?_) ?_ ?_
          rotate_left
          · show Act.put _ (some 110) _ = _
            simp only [Act.put, List.setIfInBounds_toArray, List.set_cons_zero, List.set_cons_succ, i64_w, i32_w]
            rfl
          refine join_ (σ := Unit) 9 #[true, true, true, true, true, false, false, false, false, false, false, false, false, false] (fun _ => [(111, .string (strOfNums dn.B)), (113, .string (strOfNums dn.B))]) (fun _ w' => Below w10.heap.size w10 w') ?_ ?_
          rotate_left
          · intro hCont
            refine two_ (i := 2) (j := 4) (Ni := some 111) (Nj := some 113) #[true, true, true, true, false, false, false, false, false, false, false, false, false, false] #[true, true, false, true, true, false, false, false, false, false, false, false, false, false] rfl rfl rfl rfl (by kernel_rfl) (by decide) (by decide) (fun K hK => ?_) (fun K hK => ?_)
            · skip
              have hcv := conv_n (c := c5) HR15.out
              refine value_ (w1 := ?_) (v := ?_) (by rfl) rfl ?_ ?_
              rotate_left 2
              · go_simp
                constructor
                · rfl
                · rfl
              clear hcv
              refine hK.out _ _ trivial (fun hHeld => ?_)
              clear hK K
              refine norm_ (a' := ?_) ?_ ?_
              rotate_left
              · show Act.put _ (some 111) _ = _
                simp only [Act.put, List.setIfInBounds_toArray, List.set_cons_zero, List.set_cons_succ, i64_w, i32_w]
                rfl
              refine one_ (i := 4) (N := some 113) #[true, true, true, true, true, false, false, false, false, false, false, false, false, false] rfl rfl (by kernel_rfl) (by decide) (fun K hK => ?_)
              refine goes_ Try.func59 (by kernel_rfl) rfl #[v10] (by rfl) rfl rfl (by simp only [List.map_toArray, List.map_cons, List.map_nil]; rfl) ?_
              with_reducible refine (r3bytes_calls (Kd.V_below HV10.out HB15.out) HLN.out hn).mono ?_
              rintro e w16 ⟨rfl, hb6⟩
              refine ⟨_, rfl, ?_⟩
              have HB165 := Aside0.mk hb6.below
              have HB16 := Aside0.mk (bel_step HB15.out hb6.below)
              clear hb6
              refine hK.out _ _ trivial (fun hHeld => ?_)
              clear hK K
              refine norm_ (a' := ?_) ?_ ?_
              rotate_left
              · show Act.put _ (some 113) _ = _
                simp only [Act.put, List.setIfInBounds_toArray, List.set_cons_zero, List.set_cons_succ, i64_w, i32_w]
                rfl
              exact norm_ (by first | (simp only [putAll, Act.put, List.setIfInBounds_toArray, List.set_cons_zero, List.set_cons_succ]; done) | (simp only [putAll, Act.put, List.setIfInBounds_toArray, List.set_cons_zero, List.set_cons_succ]; rfl)) (hCont () _ HB16.out)
            · skip
              refine goes_ Try.func59 (by kernel_rfl) rfl #[v10] (by rfl) rfl rfl (by simp only [List.map_toArray, List.map_cons, List.map_nil]; rfl) ?_
              with_reducible refine (r3bytes_calls (Kd.V_below HV10.out HB15.out) HLN.out hn).mono ?_
              rintro e w16 ⟨rfl, hb6⟩
              refine ⟨_, rfl, ?_⟩
              have HB165 := Aside0.mk hb6.below
              have HB16 := Aside0.mk (bel_step HB15.out hb6.below)
              clear hb6
              refine hK.out _ _ trivial (fun hHeld => ?_)
              clear hK K
              refine norm_ (a' := ?_) ?_ ?_
              rotate_left
              · show Act.put _ (some 113) _ = _
                simp only [Act.put, List.setIfInBounds_toArray, List.set_cons_zero, List.set_cons_succ, i64_w, i32_w]
                rfl
              refine one_ (i := 2) (N := some 111) #[true, true, true, true, true, false, false, false, false, false, false, false, false, false] rfl rfl (by kernel_rfl) (by decide) (fun K hK => ?_)
              have hcv := conv_n (c := c5) (HR15.out.below HB165.out)
              refine value_ (w1 := ?_) (v := ?_) (by rfl) rfl ?_ ?_
              rotate_left 2
              · go_simp
                constructor
                · rfl
                · rfl
              clear hcv
              refine hK.out _ _ trivial (fun hHeld => ?_)
              clear hK K
              refine norm_ (a' := ?_) ?_ ?_
              rotate_left
              · show Act.put _ (some 111) _ = _
                simp only [Act.put, List.setIfInBounds_toArray, List.set_cons_zero, List.set_cons_succ, i64_w, i32_w]
                rfl
              exact norm_ (by first | (simp only [putAll, Act.put, List.setIfInBounds_toArray, List.set_cons_zero, List.set_cons_succ]; done) | (simp only [putAll, Act.put, List.setIfInBounds_toArray, List.set_cons_zero, List.set_cons_succ]; rfl)) (hCont () _ HB16.out)
          rintro _ wJ hbJ
          have HBJ := Aside0.mk hbJ
          clear hbJ
          have hHeld : True := trivial
          refine norm_ (a' := ?_) ?_ ?_
          rotate_left
          · simp only [putAll, Act.put, List.setIfInBounds_toArray, List.set_cons_zero, List.set_cons_succ]
            rfl
          refine pure_ (i := 5) (N := some 114) (v := ?_) (a' := ?_) #[true, true, true, true, true, true, false, false, false, false, false, false, false, false] rfl rfl (by kernel_rfl) (fun _ _ _ h => h) (Or.inl ⟨by rfl, ?_⟩) ?_ ?_
          rotate_left
          · intro w'
            go_simp
            with_reducible rfl
          rotate_left
          · simp only [Act.put, List.setIfInBounds_toArray, List.set_cons_zero, List.set_cons_succ, i64_w, i32_w]
            rfl
          refine pure_ (i := 6) (N := some 115) (v := ?_) (a' := ?_) #[true, true, true, true, true, true, true, false, false, false, false, false, false, false] rfl rfl (by kernel_rfl) (fun _ _ _ h => h) (Or.inl ⟨by rfl, ?_⟩) ?_ ?_
          rotate_left
          · intro w'
            go_simp
            with_reducible rfl
          rotate_left
          · simp only [Act.put, List.setIfInBounds_toArray, List.set_cons_zero, List.set_cons_succ, i64_w, i32_w]
            rfl
          refine pure_ (i := 7) (N := some 116) (v := ?_) (a' := ?_) #[true, true, true, true, true, true, true, true, false, false, false, false, false, false] rfl rfl (by kernel_rfl) (fun _ _ _ h => h) (Or.inl ⟨by rfl, ?_⟩) ?_ ?_
          rotate_left
          · intro w'
            go_simp
            with_reducible rfl
          rotate_left
          · simp only [Act.put, List.setIfInBounds_toArray, List.set_cons_zero, List.set_cons_succ, i64_w, i32_w]
            rfl
          refine pure_ (i := 9) (N := some 118) (v := ?_) (a' := ?_) #[true, true, true, true, true, true, true, true, false, true, false, false, false, false] rfl rfl (by kernel_rfl) (fun _ _ _ h => h) (Or.inl ⟨by rfl, ?_⟩) ?_ ?_
          rotate_left
          · intro w'
            go_simp
            with_reducible rfl
          rotate_left
          · simp only [Act.put, List.setIfInBounds_toArray, List.set_cons_zero, List.set_cons_succ, i64_w, i32_w]
            rfl
          refine one_ (i := 8) (N := some 117) #[true, true, true, true, true, true, true, true, true, true, false, false, false, false] rfl rfl (by kernel_rfl) (by decide) (fun K hK => ?_)
          refine goes_ Try.func26 (by kernel_rfl) rfl #[.pointer (some ⟨p, 0, none⟩)] (by rfl) rfl rfl (by simp only [List.map_toArray, List.map_cons, List.map_nil]; rfl) ?_
          with_reducible refine (loose_calls wJ p u s f dn (HD10.out.move HBJ.out)).mono ?_
          rintro e w17 ⟨u7, rfl, hr7, hb7⟩
          refine ⟨_, rfl, ?_⟩
          obtain ⟨A17, c17, rfl, hR7⟩ := readsD64 hr7
          have HR17 := Aside0.mk hR7
          have HB17 := Aside0.mk (bel_step HBJ.out hb7)
          clear hr7 hb7 hR7
          refine hK.out _ _ trivial (fun hHeld => ?_)
          clear hK K
          refine norm_ (a' := ?_) ?_ ?_
          rotate_left
          · show Act.put _ (some 117) _ = _
            simp only [Act.put, List.setIfInBounds_toArray, List.set_cons_zero, List.set_cons_succ, i64_w, i32_w]
            rfl
          refine one_ (i := 10) (N := some 119) #[true, true, true, true, true, true, true, true, true, true, true, false, false, false] rfl rfl (by kernel_rfl) (by decide) (fun K hK => ?_)
          refine goes_ Try.func60 (by kernel_rfl) rfl #[v10] (by rfl) rfl rfl (by simp only [List.map_toArray, List.map_cons, List.map_nil]; rfl) ?_
          with_reducible refine (r3loose_calls (Kd.V_below HV10.out HB17.out) HLN.out hn).mono ?_
          rintro e w18 ⟨u8, rfl, hr8, hb8⟩
          refine ⟨_, rfl, ?_⟩
          obtain ⟨A18, c18, rfl, hR8⟩ := readsD64 hr8
          have HR18 := Aside0.mk hR8
          have HR78 := Aside0.mk (HR17.out.below hb8)
          have HB18 := Aside0.mk (bel_step HB17.out hb8)
          clear hr8 hb8 hR8
          refine hK.out _ _ trivial (fun hHeld => ?_)
          clear hK K
          refine norm_ (a' := ?_) ?_ ?_
          rotate_left
          · show Act.put _ (some 119) _ = _
            simp only [Act.put, List.setIfInBounds_toArray, List.set_cons_zero, List.set_cons_succ, i64_w, i32_w]
            rfl
          refine one_ (i := 11) (N := some 120) #[true, true, true, true, true, true, true, true, true, true, true, true, false, false] rfl rfl (by kernel_rfl) (by decide) (fun K hK => ?_)
          refine goes_ Try.func34 (by kernel_rfl) rfl #[.slice A17 (looseM dn).length c17, .slice A18 (looseM dn).length c18] (by rfl) rfl rfl (by simp only [List.map_toArray, List.map_cons, List.map_nil]; rfl) ?_
          with_reducible refine (same_calls A17 A18 c17 c18 (looseM dn) (looseM dn) w18 HR78.out HR18.out).mono ?_
          rintro e w19 ⟨rfl, hb9⟩
          refine ⟨_, rfl, ?_⟩
          have HB19 := Aside0.mk (bel_step HB18.out hb9)
          clear hb9
          refine hK.out _ _ trivial (fun hHeld => ?_)
          clear hK K
          refine norm_ (a' := ?_) ?_ ?_
          rotate_left
          · show Act.put _ (some 120) _ = _
            simp only [Act.put, List.setIfInBounds_toArray, List.set_cons_zero, List.set_cons_succ, i64_w, i32_w]
            rfl
          refine pure_ (i := 12) (N := some 121) (v := ?_) (a' := ?_) #[true, true, true, true, true, true, true, true, true, true, true, true, true, false] rfl rfl (by kernel_rfl) (fun _ _ _ h => h) (Or.inl ⟨by rfl, ?_⟩) ?_ ?_
          rotate_left
          · intro w'
            go_simp
            with_reducible rfl
          rotate_left
          · simp only [Act.put, List.setIfInBounds_toArray, List.set_cons_zero, List.set_cons_succ, i64_w, i32_w]
            rfl
          refine pure_ (i := 13) (N := some 122) (v := ?_) (a' := ?_) #[true, true, true, true, true, true, true, true, true, true, true, true, true, true] rfl rfl (by kernel_rfl) (fun _ _ _ h => h) (Or.inl ⟨by rfl, ?_⟩) ?_ ?_
          rotate_left
          · intro w'
            go_simp
            with_reducible rfl
          rotate_left
          · simp only [Act.put, List.setIfInBounds_toArray, List.set_cons_zero, List.set_cons_succ, i64_w, i32_w]
            rfl
          refine done_ (by kernel_rfl) ?_
          go_wp2
          refine ⟨⟨k + 1, by omega, by go_num, ⟨?_⟩, ⟨?_⟩, ⟨HF10.out.then_below HB19.out⟩⟩, by simp [intOf]; omega⟩
          · rw [← HDN.out]; exact Kd.V_below HV10.out HB19.out
          · rw [← HDN.out]; exact HD10.out.move HB19.out
      · obtain rfl : k = xs.length := by omega
        go_wp2_with (go_at_call 48; ((with_reducible refine (dk_alive _).mono ?_); rintro e w9 ⟨rfl, hb⟩; have HB9 := Aside0.mk (bel_step HB.out hb); clear hb))
        go_ret
        exact ⟨rfl, HB9.out⟩
theorem diskAll_walk (A0 : Option Addr) (c0 : Nat) (B : List Int) (A1 : Option Addr) (c1 : Nat) (os : List OpP) (A2 : Option Addr) (c2 : Nat) (l : List Int) (w : World) (hB : ReadsInt w .u8 A0 B.length B) (hby : Bys B) (_y0 : B.length ≤ 140737488351232)
    (ho : PoK.C w A1 os.length os) (hw : ∀ o ∈ os, WfPo w o ∧ o.ks.length ≤ o.c2) (hx : ReadsInt w .u8 A2 l.length l) (hxb : Bys l) (y2 : l.length ≤ 140737488351232) : Calls Try.prog 19 #[.slice A0 B.length c0, .slice A1 os.length c1, .slice A2 l.length c2] w fun e w' => e = .returned (.bool true) ∧ Below w.heap.size w w' := by
  by_cases h : 400 < l.length
  · exact dall_long A0 c0 B A1 c1 os A2 c2 l w hB hby ho hw hx hxb h y2
  · exact dall_go A0 c0 B A1 c1 os A2 c2 l w hB hby ho hw hx hxb h
end Go.Proofs.Ytbfogcckbhkciaa.Hand
