/- The statements of layer 1, walked: what is alive. -/
import Derived.Test.YtgkkboanbjkimaaHandRef1b
import Derived.Deep.RegionHeld3
namespace Go.Proofs.Ytgkkboanbjkimaa.Hand
open Go.RowKit Go.Proofs.YtgkkboanbjkimaaW.PrintWords

theorem conv_own {w : World} {base : Nat} {ok : Nat → Prop} {v : Value} {xs : List Int} (h : Kd.R (Kd.int .u8) 5 w base ok v xs) : (convert 22 9 v).run Try.prog w = .ok (.string (strOfNums xs)) w :=
  own_string Try.underlying22 Try.underlying5 Try.underlying9 (Kd.own_of_R h)
theorem conv_some {w : World} (a : Addr) {c : Nat} {xs : List Int} (h : ReadsInt w .u8 (some a) xs.length xs) : (convert 22 9 (.slice (some a) xs.length c)).run Try.prog w = .ok (.string (strOfNums xs)) w := by
  have hl : (loadCells a xs.length).run Try.prog w = .ok (xs.map (Value.int .u8)).toArray w := by
    have := run_loadCells_list (P := Try.prog) w a (xs.map (Value.int .u8)) (fun j v hj => by
      have hjl : j < xs.length := by
        rcases Nat.lt_or_ge j xs.length with h | h
        · exact h
        · simp [List.getElem?_eq_none (show (xs.map (Value.int .u8)).length ≤ j by simpa using h)] at hj
      obtain ⟨ad, he, hc⟩ := h.2.2 (by omega)
      obtain rfl := Option.some.inj he
      rw [hc j hjl]
      simp [List.getElem?_eq_getElem hjl] at hj
      subst hj
      simp [List.getD, List.getElem?_eq_getElem hjl])
    simpa using this
  rw [run_convert_bytes_string w 22 9 5 _ xs.length c Try.underlying22 Try.underlying5 Try.underlying9, run_bytesToString w _ xs.length c xs hl, foldl_push_bytes]
  simp [strOfNums, ByteArray.empty, ByteArray.emptyWithCapacity]
  rfl
theorem conv_reads {w : World} {A : Option Addr} {c : Nat} {xs : List Int} (h : ReadsInt w .u8 A xs.length xs) : (convert 22 9 (.slice A xs.length c)).run Try.prog w = .ok (.string (strOfNums xs)) w := by
  cases A with
  | none =>
    obtain rfl : xs = [] := by
      cases xs with
      | nil => rfl
      | cons x l => exact absurd (h.2.2 (by simp)) (by simp)
    exact run_convert_bytes_nil w 22 5 Try.underlying22 Try.underlying5 0 c 9 Try.underlying9
  | some a =>
    exact conv_some a h
theorem reads_own2 {w : World} {base : Nat} {ok : Nat → Prop} {v : Value} {xs : List Int} (h : Kd.R (Kd.int .u8) 5 w base ok v xs) : ∃ A c, v = .slice A xs.length c ∧ xs.length ≤ c ∧ ReadsInt w .u8 A xs.length xs := by
  obtain ⟨A, c, he, hl, hc⟩ := Kd.R_reads h
  exact ⟨A, c, he, hl, Kd.reads_of_C (d := (0 : Int)) hc⟩
theorem info_of : ∃ i, Try.prog.info? 5 = some i ∧ i.size = 1 := by
  obtain ⟨i, hi, hz⟩ := Option.map_eq_some_iff.1 info_u8
  simp only [Prod.mk.injEq] at hz
  exact ⟨i, hi, hz.2.1⟩
/-- s[:j], and s[j:], of a row of bytes. -/
theorem take_run (A : Option Addr) (c n j : Nat) (hj : j ≤ n) (hc : n ≤ c) (_hm : n ≤ 9223372036854775807) : ∀ W : World, (Instr.slice 22 (.slice A n c) none (some (.int .i64 (j : Int))) none).run Try.prog W = .ok (.slice A j c) W := by
  obtain ⟨i, hi, hz⟩ := info_of
  obtain ⟨h, _, _⟩ := print_take_int (k := .u8) 22 5 Try.underlying22 hi hz A c (List.replicate n 0) j (by omega) (by simp; exact hj) (by simpa using hc)
  simpa [List.take_replicate, Nat.min_eq_left hj] using h
theorem drop_run (A : Option Addr) (c : Nat) (xs : List Int) (j : Nat) (hj : j ≤ xs.length) (hc : xs.length ≤ c) : ∃ A' : Option Addr, (∀ W : World, (Instr.slice 22 (.slice A xs.length c) (some (.int .i64 (j : Int))) none none).run Try.prog W = .ok (.slice A' (xs.length - j) (c - j)) W) ∧
    ∀ w : World, ReadsInt w .u8 A xs.length xs → ReadsInt w .u8 A' (xs.length - j) (xs.drop j) := by
  obtain ⟨i, hi, hz⟩ := info_of
  obtain ⟨A', h1, h2, _⟩ := print_drop_of (Value.int .u8) (0 : Int) 22 5 .i64 Try.underlying22 hi hz A c xs j (by omega) (by omega) hc
  refine ⟨A', by simpa using h1, fun w hw => ?_⟩
  have := h2 w hw
  simpa [List.length_drop, ReadsInt, ReadsOf] using this
theorem reads_own {w : World} {base : Nat} {ok : Nat → Prop} {v : Value} {xs : List Int} (h : Kd.R (Kd.int .u8) 5 w base ok v xs) : ∃ A c, v = .slice A xs.length c ∧ ReadsInt w .u8 A xs.length xs :=
  own_reads (Kd.own_of_R h)

set_option maxHeartbeats 1000000 in
theorem alive_calls (w : World) : Calls Try.prog 10 #[] w fun e w' => e = .returned (.bool true) ∧ Below w.heap.size w w' := by
  have s1 : signN 255 1 = 18446744073709551615 := by kernel_rfl
  have s2 : rightB 1 = true := rfl
  have s3 : (padL [2, 1]).length = 8 := rfl
  go_enter Try.func10, Try.ntmps10
  go_wp2_with (first | (go_at_call 15; refine (put_calls (New w) (.slice none 0 0) [] 2 258 _ (Kd.R_nil _ _ _ _ _) rfl (by simp)).mono ?_; rintro e w1 ⟨v1, rfl, hr1, hf1⟩; have hr1 : Kd.R (Kd.int .u8) 5 w1 0 (fun k => New w k ∨ w.heap.size ≤ k) v1 [2, 1] := hr1; have HF1 := Aside0.mk (hf1.below _ (Nat.le_refl _) (fun b hb => hb)); have HRo := Aside0.mk hr1; obtain ⟨A1, c1, rfl, hR1⟩ := reads_own hr1; have HR1 := Aside0.mk hR1; clear hr1 hf1 hR1) | (go_at_call 11; refine (get_yes [2, 1] A1 c1 0 2 _ HR1.out rfl).mono ?_; rintro e w2 ⟨rfl, hb2⟩; have HB2 := Aside0.mk (HF1.out.trans (hb2.mono HF1.out.size)); have HB2' := Aside0.mk hb2; have hconv2 : (convert 22 9 (.slice A1 2 c1)).run Try.prog w2 = .ok (.string ⟨#[2, 1]⟩) w2 := conv_own (Kd.R_below HRo.out hb2); have hg : getN [2, 1] 0 2 = 258 := rfl; clear hb2) | (go_at_call 20; refine (sign_calls 255 1 _).mono ?_; rintro e w3 ⟨rfl, rfl⟩) | (go_at_call 16; refine (fits_signed_calls 255 1 _).mono ?_; rintro e w3 ⟨rfl, rfl⟩) | (go_at_call 13; refine (pad_calls A1 c1 [2, 1] _ (HR1.out.below HB2'.out) (by simp)).mono ?_; rintro e w4 ⟨v4, rfl, hr4, hb4⟩; have HR4 := Aside0.mk hr4; have HB4 := Aside0.mk (HB2.out.trans (hb4.mono HB2.out.size)); obtain ⟨A4, c4, rfl, hR4⟩ := reads_own hr4; clear hr4 hb4 hR4))
  go_ret
  exact ⟨rfl, HB4.out⟩

set_option maxHeartbeats 2000000 in
theorem gets_big (A : Option Addr) (c : Nat) (l : List Int) (at_ width : Int) (w : World) (hl : l.length ≤ 9223372036854775807) (h : 20000 < l.length) :
    Calls Try.prog 3 #[.slice A l.length c, .int .i64 at_, .int .i64 width] w fun e w' => e = .returned (.bool true) ∧ Below w.heap.size w w' := by
  go_enter Try.func3, Try.ntmps3
  go_wp2_with (go_at_call 10; refine (alive_calls _).mono ?_; rintro e w1 ⟨rfl, hb1⟩; have HB1 := Aside0.mk hb1; clear hb1)
  go_ret
  exact ⟨rfl, HB1.out⟩

/-- What Get tells, as one number and one answer. -/
def gNum (l : List Int) (at_ width : Int) : Int := if rightB width && insideB at_ width l.length then numL (cut l at_.toNat width.toNat) else 0
theorem get_any (A : Option Addr) (c : Nat) (l : List Int) (at_ width : Int) (w : World) (hr : ReadsInt w .u8 A l.length l) (hb : Bys l) :
    Calls Try.prog 11 #[.slice A l.length c, .int .i64 at_, .int .i64 width] w fun e w' => e = .returned (.tuple #[.int .u64 (gNum l at_ width), .bool (rightB width && insideB at_ width l.length)]) ∧ Below w.heap.size w w' := by
  cases h : (rightB width && insideB at_ width l.length) with
  | true =>
    obtain ⟨a, m, rfl, rfl, hm0, hm8, ham⟩ := inside_of h
    refine (get_yes l A c a m w hr h).mono fun e w' he => ⟨?_, he.2⟩
    rw [he.1, gNum, h, if_pos rfl, Int.toNat_natCast, getN_eq hb a m hm8 ham]
    rfl
  | false =>
    refine (get_no l A c at_ width w hr.2.1 h).mono fun e w' he => ⟨?_, he.2⟩
    rw [he.1, gNum, h]
    rfl
theorem bytes_str {l : List Int} (hb : Bys l) : bytesOf (strOfNums l) = l := by
  unfold bytesOf
  rw [strOfNums_data, List.map_map]
  conv => rhs; rw [← List.map_id l]
  apply List.map_congr_left
  intro x hx
  have := hb x hx
  simp only [Function.comp, UInt8.toNat_ofNat', id]
  omega
theorem rGet_any (l : List Int) (at_ width : Int) (w : World) (hb : Bys l) (hs : l.length ≤ 140737488355328) :
    Calls Try.prog 12 #[.string (strOfNums l), .int .i64 at_, .int .i64 width] w fun e w' => e = .returned (.tuple #[.int .u64 (gNum l at_ width), .bool (rightB width && insideB at_ width l.length)]) ∧ w = w' := by
  cases h : (rightB width && insideB at_ width l.length) with
  | true =>
    refine (rGet_yes (strOfNums l) at_ width w (by rw [strOfNums_size]; exact hs) (by rw [strOfNums_size]; exact h)).mono fun e w' he => ⟨?_, he.2⟩
    rw [he.1, gNum, h, if_pos rfl, bytes_str hb]
  | false =>
    refine (rGet_no (strOfNums l) at_ width w (by rw [strOfNums_size]; exact h)).mono fun e w' he => ⟨?_, he.2⟩
    rw [he.1, gNum, h]
    rfl

set_option maxHeartbeats 4000000 in
theorem gets_small (A : Option Addr) (c : Nat) (l : List Int) (at_ width : Int) (w : World) (hr : ReadsInt w .u8 A l.length l) (hb : Bys l) (h : l.length ≤ 20000) :
    Calls Try.prog 3 #[.slice A l.length c, .int .i64 at_, .int .i64 width] w fun e w' => e = .returned (.bool true) ∧ Below w.heap.size w w' := by
  have HR := Aside0.mk hr
  have HB := Aside0.mk hb
  clear hr hb
  go_enter Try.func3, Try.ntmps3
  go_wp2_with (first | (go_at_call 11; refine (get_any A c l at_ width _ HR.out HB.out).mono ?_; rintro e w1 ⟨rfl, hb1⟩; have HB1 := Aside0.mk hb1; have hconv1 : (convert 22 9 (.slice A l.length c)).run Try.prog w1 = .ok (.string (strOfNums l)) w1 := conv_reads (HR.out.below hb1); clear hb1) | (go_at_call 12; refine (rGet_any l at_ width _ HB.out (by omega)).mono ?_; rintro e w2 ⟨rfl, rfl⟩))
  go_region_held (fun w' => Below w.heap.size w w' ∧ (convert 22 9 (.slice A l.length c)).run Try.prog w' = .ok (.string (strOfNums l)) w') (first | exact ⟨HB4.out, conv_reads (HR.out.below HB4.out)⟩ | exact ⟨HB3.out, conv_reads (HR.out.below HB3.out)⟩ | exact ⟨HB1.out.drew, conv_reads (HR.out.below HB1.out.drew)⟩) (first | (go_at_call 10; refine (alive_calls _).mono ?_; rintro e w3 ⟨rfl, hb3⟩; have HB3 := Aside0.mk (HB1.out.drew.trans (hb3.mono HB1.out.size)); clear hb3) | (go_at_call 13; refine (pad_calls A c l _ (HR.out.below HB3.out) (by omega)).mono ?_; rintro e w4 ⟨v4, rfl, hr4, hb4⟩; have hconv5 := conv_own hr4; have HB4 := Aside0.mk (HB3.out.trans (hb4.mono HB3.out.size)); clear hr4 hb4) | (go_at_call 14; refine (rPad_calls l _ (by omega)).mono ?_; rintro e w5 ⟨rfl, rfl⟩))
  all_goals
    go_wp2
    go_ret
    exact ⟨rfl, HB4.out⟩
theorem wordGets_walk (A : Option Addr) (c : Nat) (l : List Int) (at_ width : Int) (w : World) (hr : ReadsInt w .u8 A l.length l) (hb : Bys l) (_y : l.length ≤ 140737488351232) (_h1 : (Lit.int .i64 at_).wf = true) (_h2 : (Lit.int .i64 width).wf = true) :
    Calls Try.prog 3 #[.slice A l.length c, .int .i64 at_, .int .i64 width] w fun e w' => e = .returned (.bool true) ∧ Below w.heap.size w w' := by
  by_cases h : 20000 < l.length
  · exact gets_big A c l at_ width w hr.2.1 h
  · exact gets_small A c l at_ width w hr hb (by omega)
end Go.Proofs.Ytgkkboanbjkimaa.Hand
