/- The document's New, Encode of layer 11. -/
import Derived.Test.YtbogfjadmiodkaaHandSlR3
import Derived.Test.YtbogfjadmiodkaaHandSl8
import Derived.Test.YtbogfjadmiodkaaHandFlat
import Derived.Lib.ConvBytes
import Derived.Lib.Bytes
namespace Go.Proofs.Ytbogfjadmiodkaa.Hand
open Go.RowKit Go.Proofs.YtbogfjadmiodkaaW.PrintWords
set_option linter.unusedVariables false
set_option linter.unusedSimpArgs false

theorem rNew_calls (w : World) (n : Nat) (hn : n ≤ 256) :
    Calls Try.prog 48 #[.int .i64 n] w fun e w' => ∃ (v : Value), e = .returned (.tuple #[v, .bool true]) ∧ SlK.R 57 w' 0 (New w) v (List.replicate n (0, false, 0)) ∧ Below w.heap.size w w' := by
  obtain ⟨km, hR⟩ := make_flat (P := Try.prog) (hl := encSl_len) (h1 := encSl_one) 39 57 (0, false, 0) (.agg #[.int .i64 0, .bool false, .int .u64 0]) 24 Try.underlying39 info_rsl rfl n (by omega) (by omega) w
  have HR := Aside0.mk hR
  clear hR
  go_enter Try.func48, Try.ntmps48
  go_wp2
  go_ret2
  exact ⟨_, rfl, Kd.R_mono HR.out (fun k hk => by show w.heap.size ≤ k; omega), below_alloc (Below.refl _ _) _⟩
theorem rNew_no (w : World) (n : Int) (hn : n < 0 ∨ 256 < n) :
    Calls Try.prog 48 #[.int .i64 n] w fun e w' => e = .returned (.tuple #[.slice none 0 0, .bool false]) ∧ w = w' := by
  rcases hn with hn | hn
  · go_enter Try.func48, Try.ntmps48
    go_wp2
    go_ret2
    exact ⟨rfl, rfl⟩
  · go_enter Try.func48, Try.ntmps48
    go_wp2
    go_ret2
    exact ⟨rfl, rfl⟩
theorem str_assoc (a b c : ByteArray) : a ++ b ++ c = a ++ (b ++ c) := ByteArray.append_assoc
theorem rEncode_calls (w : World) (A : Option Addr) (c : Nat) (L : List Sl) (h : RdS w A L) (hl : L.length ≤ 256) (hw : ∀ x ∈ L, WfSl x) :
    Calls Try.prog 24 #[.slice A L.length c] w fun e w' => e = .returned (.string (strOfNums (encM L))) ∧ Below w.heap.size w w' := by
  have HH := Aside0.mk h
  have HW := Aside0.mk hw
  clear h hw
  go_enter Try.func24, Try.ntmps24
  go_wp2_with (go_at_call 40; (with_reducible refine (rPut_any 2 L.length w (by omega) (by omega)).mono ?_); rintro e w1 ⟨rfl, hb1⟩; have HB1 := Aside0.mk hb1; clear hb1)
  obtain ⟨P0, hP0⟩ : ∃ P0, P0 = putL (L.length : Int) 2 := ⟨_, rfl⟩
  have hPl : P0.length ≤ 8 := by rw [hP0]; exact putL_le _ _
  have HPE := Aside0.mk (show encM L = P0 ++ L.flatMap encOne by rw [encM, hP0])
  rw [← hP0]
  clear hP0
  go_loopw [3, 4] (fun b i wr => ∃ (j : Nat) (s : ByteArray), j ≤ L.length ∧ i = .int .i64 j ∧ b = .string s ∧ Aside0 (s = strOfNums (P0 ++ (L.take j).flatMap encOne)) ∧ Aside0 (Below w.heap.size w wr)) (fun _ i _ => (L.length - intOf i).toNat)
  case atStart => exact ⟨0, _, Nat.zero_le _, rfl, rfl, ⟨by simp⟩, HB1⟩
  case round =>
    obtain ⟨j, s, hj, rfl, rfl, HS, HB⟩ := hrel
    have hsz : s.size ≤ 5000 := by
      rw [HS.out, strOfNums_size, List.length_append]
      have := encs_le (L.take j)
      have h2 : (L.take j).length ≤ L.length := by rw [List.length_take]; omega
      omega
    by_cases hjn : j < L.length
    · obtain ⟨y, hy⟩ : ∃ y, L[j]? = some y := ⟨_, List.getElem?_eq_getElem hjn⟩
      have hyw := HW.out y (List.mem_of_getElem? hy)
      obtain ⟨⟨hy0, hy1⟩, hy2, hy3⟩ := hyw
      obtain ⟨g, o, hA, c0, c1, c2⟩ := (HH.out.below HB.out).cells hy
      subst hA
      have HY := Aside0.mk hy
      clear hy
      cases hu : y.2.1 with
      | true =>
        rw [hu] at c1
        have HU := Aside0.mk hu
        clear hu
        obtain ⟨t1, ht1⟩ : ∃ t1, t1 = strOfNums (putL y.1 2) := ⟨_, rfl⟩
        have hz1 : t1.size ≤ 8 := by rw [ht1, strOfNums_size]; exact putL_le _ _
        obtain ⟨t2, ht2⟩ : ∃ t2, t2 = strOfNums (putL y.2.2 8) := ⟨_, rfl⟩
        have hz2 : t2.size ≤ 8 := by rw [ht2, strOfNums_size]; exact putL_le _ _
        have HT1 := Aside0.mk ht1
        have HT2 := Aside0.mk ht2
        clear ht1 ht2
        go_wp2_with (first | (go_at_call 40; (with_reducible refine (rPut_any 2 y.1 wr hy0 (by omega)).mono ?_); rw [← HT1.out]; rintro e w2 ⟨rfl, hb2⟩; have HB2 := Aside0.mk (bel_step HB.out hb2); obtain ⟨g', o', hA, c0, c1, c2⟩ := (HH.out.below HB2.out).cells HY.out; rw [HU.out] at c1; cases hA; clear hb2) | (go_at_call 40; (with_reducible refine (rPut_any 8 y.2.2 w2 hy2 (by omega)).mono ?_); rw [← HT2.out]; rintro e w3 ⟨rfl, hb3⟩; have HB3 := Aside0.mk (bel_step HB2.out hb3); clear hb3))
        refine ⟨⟨j + 1, _, by omega, by go_num, rfl, ⟨?_⟩, HB3⟩, by simp [intOf]; omega⟩
        rw [take_snoc HY.out, List.flatMap_append, ← List.append_assoc, ← str_app, ← HS.out]
        simp only [List.flatMap_cons, List.flatMap_nil, List.append_nil, encOne, HU.out, if_true, if_false, Bool.false_eq_true]
        rw [← str_app, ← HT1.out, show (1 : Int) :: putL y.2.2 8 = [1] ++ putL y.2.2 8 from rfl, ← str_app, ← HT2.out]
        simp only [str_assoc]
        rfl
      | false =>
        rw [hu] at c1
        have HU := Aside0.mk hu
        clear hu
        obtain ⟨t1, ht1⟩ : ∃ t1, t1 = strOfNums (putL y.1 2) := ⟨_, rfl⟩
        have hz1 : t1.size ≤ 8 := by rw [ht1, strOfNums_size]; exact putL_le _ _
        have HT1 := Aside0.mk ht1
        clear ht1
        go_wp2_with (go_at_call 40; (with_reducible refine (rPut_any 2 y.1 wr hy0 (by omega)).mono ?_); rw [← HT1.out]; rintro e w2 ⟨rfl, hb2⟩; have HB2 := Aside0.mk (bel_step HB.out hb2); obtain ⟨g', o', hA, c0, c1, c2⟩ := (HH.out.below HB2.out).cells HY.out; rw [HU.out] at c1; cases hA; clear hb2)
        refine ⟨⟨j + 1, _, by omega, by go_num, rfl, ⟨?_⟩, HB2⟩, by simp [intOf]; omega⟩
        rw [take_snoc HY.out, List.flatMap_append, ← List.append_assoc, ← str_app, ← HS.out]
        simp only [List.flatMap_cons, List.flatMap_nil, List.append_nil, encOne, HU.out, if_true, if_false, Bool.false_eq_true]
        rw [← str_app, ← HT1.out]
        simp only [str_assoc]
        rfl
    · obtain rfl : j = L.length := by omega
      rw [List.take_length] at HS
      go_wp2
      go_ret
      exact ⟨by rw [HPE.out, ← HS.out]; rfl, HB.out⟩
end Go.Proofs.Ytbogfjadmiodkaa.Hand
