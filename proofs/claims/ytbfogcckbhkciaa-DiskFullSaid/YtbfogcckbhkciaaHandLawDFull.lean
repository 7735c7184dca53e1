/- DiskFull: the walk. -/
import Derived.Test.YtbfogcckbhkciaaHandDkAlive
import Derived.Test.YtbfogcckbhkciaaWLast
namespace Go.Proofs.Ytbfogcckbhkciaa.Hand
open Go.RowKit Go.Maps Go.Proofs.YtbfogcckbhkciaaW.PrintWords Go.Proofs.YtbfogcckbhkciaaW.PrintLast
set_option linter.unusedVariables false
set_option linter.unusedSimpArgs false
set_option maxRecDepth 100000 in
theorem dfull_out (n : Int) (A : Option Addr) (c : Nat) (l : List Int) (w : World) (hr : ReadsInt w .u8 A l.length l) (hb : Bys l) (h : n < 0 ∨ 8192 < n) : Calls Try.prog 17 #[.int .i64 n, .slice A l.length c] w fun e w' => e = .returned (.bool true) ∧ Below w.heap.size w w' := by
  have HN := Aside0.mk (new_bad w n h)
  clear hr hb h
  go_enter Try.func17, Try.ntmps17
  go_wp2_with (first | (go_at_call 27; ((with_reducible refine HN.out.mono ?_); rintro e w1 ⟨rfl, hb1⟩; have HB1 := Aside0.mk hb1; clear hb1)) | (go_at_call 48; ((with_reducible refine (dk_alive _).mono ?_); rintro e w3 ⟨rfl, hb⟩; have HB3 := Aside0.mk (bel_step HB1.out hb); clear hb)))
  go_ret
  exact ⟨rfl, HB3.out⟩
set_option maxRecDepth 100000 in
theorem dfull_big (n : Nat) (A : Option Addr) (c : Nat) (l : List Int) (w : World) (hr : ReadsInt w .u8 A l.length l) (hb : Bys l) (h : n ≤ 8192) (h2 : 100 < n ∨ 1000 < l.length) : Calls Try.prog 17 #[.int .i64 (n : Int), .slice A l.length c] w fun e w' => e = .returned (.bool true) ∧ Below w.heap.size w w' := by
  have HN := Aside0.mk (new_calls w n h)
  have hl := hr.2.1
  clear hr hb
  rcases (show (100 < n) ∨ (¬ 100 < n ∧ 1000 < l.length) by omega) with h1 | ⟨h1, h3⟩
  all_goals
    clear h2
    go_enter Try.func17, Try.ntmps17
    go_wp2_with (first | (go_at_call 27; ((with_reducible refine HN.out.mono ?_); rintro e w1 ⟨p, v, s, f, rfl, hd1, hp1, hv1, hb1⟩; have HD1 := Aside0.mk hd1; have HV := Aside0.mk hv1; have HB1 := Aside0.mk hb1; clear hd1 hp1 hv1 hb1)) | (go_at_call 48; ((with_reducible refine (dk_alive _).mono ?_); rintro e w3 ⟨rfl, hb⟩; have HB3 := Aside0.mk (bel_step HB1.out hb); clear hb)))
    all_goals
      go_ret
      exact ⟨rfl, HB3.out⟩
theorem begun_len (w : World) (p : Nat) (v : Value) (s f : Nat) (d : Dev) (A : Option Addr) (c : Nat) (l : List Int) (h : HasD w p v s f d) (hr : ReadsInt w .u8 A l.length l) (hf : ¬ FullD d l) :
    Calls Try.prog 54 #[.pointer (some ⟨p, 0, none⟩), .slice A l.length c] w fun e w' => ∃ A' c', e = .returned (.tuple #[.slice A' (stepsD d l).length c', .int .i64 0]) ∧ Below w.heap.size w w' := by
  refine (begin_good w p v s f d A c l h hr hf).mono ?_
  rintro e w' ⟨u, xs, rfl, hrow, hall, hb⟩
  obtain ⟨A', c', rfl, _, _⟩ := Kd.R_reads hrow
  rw [hall.len]
  exact ⟨A', c', rfl, hb⟩
theorem dmark_zeros (n : Nat) : dmark (Dev.of (List.replicate (8 * n) 0)) = (0, 0) := by
  rw [dmark]
  split
  · rfl
  · rename_i h
    have h8 : 8 ≤ 8 * n := by simpa [Dev.of] using h
    have e : cut (Dev.of (List.replicate (8 * n) 0)).B 0 8 = List.replicate 8 0 := by
      simp only [Dev.of, cut, List.drop_zero, List.take_replicate]
      rw [Nat.min_eq_left h8]
    rw [e]
    have e2 : readM (numL (List.replicate 8 0)) = (0, 0, false) := by decide +kernel
    rw [e2]
set_option maxRecDepth 100000 in
theorem dfull_room (n : Nat) (A : Option Addr) (c : Nat) (l : List Int) (w : World) (hr : ReadsInt w .u8 A l.length l) (hb : Bys l) (h : n ≤ 100) (h2 : l.length ≤ 1000) : Calls Try.prog 17 #[.int .i64 (n : Int), .slice A l.length c] w fun e w' => e = .returned (.bool true) ∧ Below w.heap.size w w' := by
  have HN := Aside0.mk (show Calls Try.prog 27 #[.int .i64 (n : Int)] w fun e w' => ∃ (q : Nat) (u : Value) (s f : Nat), e = .returned (.tuple #[.pointer (some ⟨q, 0, none⟩), .int .i64 0]) ∧ HasD w' q u s f (Dev.of (List.replicate (8 * n) 0)) ∧ w.heap.size ≤ q ∧ (∀ b, OwnD u s f b → w.heap.size ≤ b) ∧ Below w.heap.size w w' from new_calls w n (by omega))
  have HR := Aside0.mk hr
  have HBY := Aside0.mk hb
  have HRM := Aside0.mk (fun (w : World) => room_calls n w (by omega))
  have hm0 := dmark_zeros n
  have hrm : roomD (Dev.of (List.replicate (8 * n) 0)) = roomN n := by rw [roomD]; congr 1; simp [Dev.of]
  generalize Dev.of (List.replicate (8 * n) 0) = d at *
  obtain ⟨m, hm⟩ : ∃ m, m = roomN n := ⟨_, rfl⟩
  rw [← hm] at HRM hrm
  have hl := hr.2.1
  by_cases hf : m < l.length
  · have HF := Aside0.mk (show FullD d l from .inl (by rw [hrm]; exact hf))
    have hd1 : decide ((m : Int) < l.length) = true := decide_eq_true (by omega)
    have hd2 : decide (m < l.length) = true := decide_eq_true hf
    clear hr hb hm0 hrm hm hf
    go_enter Try.func17, Try.ntmps17
    go_wp2_with (first | (go_at_call 27; ((with_reducible refine HN.out.mono ?_); rintro e w1 ⟨p, v, s, f, rfl, hd1, hp1, hv1, hb1⟩; have HD1 := Aside0.mk hd1; have HV := Aside0.mk hv1; have HB1 := Aside0.mk hb1; clear hd1 hp1 hv1 hb1))  | (go_at_call 22; (first | ((with_reducible refine (bytes_calls _ p v s f _ HD4.out).mono ?_); rintro e w5 ⟨u5, rfl, hu, hb5⟩; have hcv := conv_own hu; have HB5 := Aside0.mk (bel_step HB4.out hb5); clear hu hb5) | ((with_reducible refine (bytes_calls _ p v s f _ HD1.out).mono ?_); rintro e w2 ⟨u2, rfl, hu, hb2⟩; have hcv := conv_own hu; have HD2 := Aside0.mk (HD1.out.move hb2); have HB2 := Aside0.mk (bel_step HB1.out hb2); clear hu hb2))) | (go_at_call 54; ((with_reducible refine (begin_full _ p v s f d A c l HD2.out hl HF.out).mono ?_); rintro e w3 ⟨rfl, hb⟩; have HD3 := Aside0.mk (HD2.out.move hb); have HB3 := Aside0.mk (bel_step HB2.out hb); clear hb)) | (go_at_call 50; ((with_reducible refine (HRM.out _).mono ?_); rintro e wR ⟨rfl, rfl⟩)) | (go_at_call 48; ((with_reducible refine (dk_alive _).mono ?_); rintro e w4 ⟨rfl, hb⟩; have HD4 := Aside0.mk (HD3.out.move hb); have HB4 := Aside0.mk (bel_step HB3.out hb); clear hb)))
    go_ret
    exact ⟨rfl, HB5.out⟩
  · have HF := Aside0.mk (show ¬ FullD d l by rw [FullD, hrm, hm0]; simp only; omega)
    have hd1 : decide ((m : Int) < l.length) = false := decide_eq_false (by omega)
    have hd2 : decide (m < l.length) = false := decide_eq_false hf
    have HSL := Aside0.mk (show ((stepsD d l).length : Int) = ((l.length : Int) + 7) / 8 + 5 by
      rw [stepsD, List.length_append, wrsN, List.length_map, List.length_range, padL_length]
      simp)
    have hsl := HSL.out
    clear hr hb hm0 hrm hm hf
    go_enter Try.func17, Try.ntmps17
    go_wp2_with (first | (go_at_call 27; ((with_reducible refine HN.out.mono ?_); rintro e w1 ⟨p, v, s, f, rfl, hd1, hp1, hv1, hb1⟩; have HD1 := Aside0.mk hd1; have HV := Aside0.mk hv1; have HB1 := Aside0.mk hb1; clear hd1 hp1 hv1 hb1))  | (go_at_call 22; (first | ((with_reducible refine (bytes_calls _ p v s f _ HD4.out).mono ?_); rintro e w5 ⟨u5, rfl, hu, hb5⟩; have hcv := conv_own hu; have HB5 := Aside0.mk (bel_step HB4.out hb5); clear hu hb5) | ((with_reducible refine (bytes_calls _ p v s f _ HD1.out).mono ?_); rintro e w2 ⟨u2, rfl, hu, hb2⟩; have hcv := conv_own hu; have HD2 := Aside0.mk (HD1.out.move hb2); have HB2 := Aside0.mk (bel_step HB1.out hb2); clear hu hb2))) | (go_at_call 54; ((with_reducible refine (begun_len _ p v s f d A c l HD2.out (HR.out.below HB2.out) HF.out).mono ?_); rintro e w3 ⟨A3, c3, rfl, hb⟩; have HD3 := Aside0.mk (HD2.out.move hb); have HB3 := Aside0.mk (bel_step HB2.out hb); clear hb)) | (go_at_call 50; ((with_reducible refine (HRM.out _).mono ?_); rintro e wR ⟨rfl, rfl⟩)) | (go_at_call 48; ((with_reducible refine (dk_alive _).mono ?_); rintro e w4 ⟨rfl, hb⟩; have HD4 := Aside0.mk (HD3.out.move hb); have HB4 := Aside0.mk (bel_step HB3.out hb); clear hb)))
    go_ret
    exact ⟨rfl, HB5.out⟩
theorem diskFull_walk (n : Int) (A : Option Addr) (c : Nat) (l : List Int) (w : World) (_hn : (Lit.int .i64 n).wf = true) (hr : ReadsInt w .u8 A l.length l) (hb : Bys l) (_y : l.length ≤ 140737488351232) :
    Calls Try.prog 17 #[.int .i64 n, .slice A l.length c] w fun e w' => e = .returned (.bool true) ∧ Below w.heap.size w w' := by
  by_cases h : n < 0 ∨ 8192 < n
  · exact dfull_out n A c l w hr hb h
  · obtain ⟨k, rfl⟩ := Int.eq_ofNat_of_zero_le (show 0 ≤ n by omega)
    by_cases h2 : 100 < k ∨ 1000 < l.length
    · exact dfull_big k A c l w hr hb (by omega) h2
    · exact dfull_room k A c l w hr hb (by omega) (by omega)
end Go.Proofs.Ytbfogcckbhkciaa.Hand
