/- A disk's mark, room, and Load. -/
import Derived.Test.YtbfogcckbhkciaaHandDk2
namespace Go.Proofs.Ytbfogcckbhkciaa.Hand
open Go.RowKit Go.Maps Go.Proofs.YtbfogcckbhkciaaW.PrintWords
set_option linter.unusedVariables false
set_option linter.unusedSimpArgs false
/-- How many bytes an area has. -/
def roomN (n : Nat) : Nat := (max n 1 - 1) / 2 * 8
theorem area_calls (n : Nat) (w : World) (h : n ≤ 8192) : Calls Try.prog 89 #[.int .i64 n] w fun e w' => e = .returned (.int .i64 (((max n 1 - 1) / 2 : Nat) : Int)) ∧ w = w' := by
  have HM := Aside0.mk (show (((max n 1 - 1) / 2 : Nat) : Int) = (max (n : Int) 1 - 1) / 2 by omega)
  go_enter Try.func89, Try.ntmps89
  go_wp2
  all_goals
    go_ret
    rw [HM.out]
    exact ⟨rfl, rfl⟩
theorem room_calls (n : Nat) (w : World) (h : n ≤ 8192) : Calls Try.prog 50 #[.int .i64 n] w fun e w' => e = .returned (.int .i64 (roomN n : Nat)) ∧ w = w' := by
  have HA := Aside0.mk (area_calls n w h)
  have HM := Aside0.mk (show ((roomN n : Nat) : Int) = (((max n 1 - 1) / 2 : Nat) : Int) * 8 by unfold roomN; push_cast; rfl)
  have hb : ((max n 1 - 1) / 2 : Nat) ≤ 8192 := by omega
  generalize ((max n 1 - 1) / 2 : Nat) = q at HM hb HA
  go_enter Try.func50, Try.ntmps50
  go_wp2_with (go_at_call 89; ((with_reducible refine HA.out.mono ?_); rintro e w1 ⟨rfl, rfl⟩))
  go_ret
  rw [HM.out]
  exact ⟨rfl, rfl⟩
theorem words_calls (w : World) (p : Nat) (v : Value) (s f : Nat) (d : Dev) (h : HasD w p v s f d) :
    Calls Try.prog 91 #[.pointer (some ⟨p, 0, none⟩)] w fun e w' => e = .returned (.int .i64 ((d.B.length / 8 : Nat) : Int)) ∧ w = w' := by
  have HL := Aside0.mk (len_calls w p v s f d h)
  have HM := Aside0.mk (show (((d.B.length / 8 : Nat) : Int)) = (d.B.length : Int) / 8 by omega)
  have hm := h.ok.max
  clear h
  go_enter Try.func91, Try.ntmps91
  go_wp2_with (go_at_call 28; ((with_reducible refine HL.out.mono ?_); rintro e w1 ⟨rfl, rfl⟩))
  go_ret
  rw [HM.out]
  exact ⟨rfl, rfl⟩
/-- A device's mark. -/
def dmark (d : Dev) : Int × Int := if d.B.length < 8 then (0, 0) else ((readM (numL (cut d.B 0 8))).1, (readM (numL (cut d.B 0 8))).2.1)
theorem num8_range {l : List Int} (hb : Bys l) (hl : l.length = 8) : 0 ≤ numL l ∧ numL l < 18446744073709551616 := by
  have h1 := numL_nonneg hb
  have h2 := numL_lt hb
  rw [hl] at h2
  exact ⟨h1, h2⟩
theorem get_none (w : World) : Calls Try.prog 94 #[.slice none 0 0, .int .i64 0, .int .i64 8] w fun e w' => e = .returned (.tuple #[.int .u64 0, .bool false]) ∧ Below w.heap.size w w' :=
  get_no [] none 0 0 8 w (by decide) (by decide)
theorem read_none (w : World) (p : Nat) (v : Value) (s f : Nat) (d : Dev) (h : HasD w p v s f d) (hl : d.B.length < 8) :
    Calls Try.prog 31 #[.pointer (some ⟨p, 0, none⟩), .int .i64 0, .int .i64 8] w fun e w' => e = .returned (.tuple #[.slice none 0 0, .int .i64 30]) ∧ Below w.heap.size w w' := by
  have : insE d.B.length 0 8 = 30 := by
    unfold insE
    rw [if_neg (by omega), if_pos (by omega)]
  refine (read_bad w p v s f d 0 8 h (by rw [this]; decide)).mono fun e w' he => ?_
  rw [this] at he
  exact he
theorem read_first (w : World) (p : Nat) (v : Value) (s f : Nat) (d : Dev) (h : HasD w p v s f d) (hl : 8 ≤ d.B.length) :
    Calls Try.prog 31 #[.pointer (some ⟨p, 0, none⟩), .int .i64 0, .int .i64 8] w fun e w' => ∃ A c, e = .returned (.tuple #[.slice A (cut d.B 0 8).length c, .int .i64 0]) ∧ ReadsInt w' .u8 A (cut d.B 0 8).length (cut d.B 0 8) ∧ Below w.heap.size w w' := by
  refine (show Calls Try.prog _ #[.pointer (some ⟨p, 0, none⟩), .int .i64 0, .int .i64 8] _ _ from read_good w p v s f d 0 8 h (by unfold insE; rw [if_neg (by omega), if_neg (by omega)])).mono fun e w' he => ?_
  obtain ⟨u, rfl, hu, hb⟩ := he
  obtain ⟨A, c, rfl, _, hr⟩ := reads_own2 hu
  exact ⟨A, c, rfl, hr, hb⟩
theorem dmark_calls (w : World) (p : Nat) (v : Value) (s f : Nat) (d : Dev) (h : HasD w p v s f d) :
    Calls Try.prog 90 #[.pointer (some ⟨p, 0, none⟩)] w fun e w' => e = .returned (.tuple #[.int .i64 (dmark d).1, .int .i64 (dmark d).2]) ∧ Below w.heap.size w w' := by
  by_cases hl : d.B.length < 8
  · have HH := Aside0.mk h
    have HD := Aside0.mk (show dmark d = (0, 0) from if_pos hl)
    have HZ := Aside0.mk (fun w => (mread_calls 0 w (by decide) (by decide)))
    rw [HD.out]
    clear h
    go_enter Try.func90, Try.ntmps90
    go_wp2_with (first | (go_at_call 31; ((with_reducible refine (read_none w p v s f d HH.out hl).mono ?_); rintro e w1 ⟨rfl, hb⟩; have HB1 := Aside0.mk hb; clear hb)) | (go_at_call 94; ((with_reducible refine (get_none w1).mono ?_); rintro e w2 ⟨rfl, hb⟩; have HB2 := Aside0.mk (bel_step HB1.out hb); clear hb)) | (go_at_call 53; ((with_reducible refine (HZ.out w2).mono ?_); rintro e w3 ⟨rfl, hb⟩; have HB3 := Aside0.mk (bel_step HB2.out hb); clear hb)))
    go_ret2
    exact ⟨rfl, HB3.out⟩
  · have HH := Aside0.mk h
    have h8 : (cut d.B 0 8).length = 8 := cut_length (by omega)
    have HC8 := Aside0.mk h8
    have HBY := Aside0.mk (cut_bys h.ok.bys 0 8)
    have HD := Aside0.mk (show dmark d = _ from if_neg hl)
    have HG := Aside0.mk (num8_range (cut_bys h.ok.bys 0 8) h8)
    rw [HD.out]
    have HRF := Aside0.mk (read_first w p v s f d h (by omega))
    generalize cut d.B 0 8 = L at *
    clear h h8
    go_enter Try.func90, Try.ntmps90
    go_wp2_with (first | (go_at_call 31; ((with_reducible refine HRF.out.mono ?_); rintro e w1 ⟨A1, c1, rfl, hr, hb⟩; have HB1 := Aside0.mk hb; have HR1 := Aside0.mk hr; clear hb hr)) | (go_at_call 94; ((with_reducible refine (get8 A1 c1 L w1 HC8.out HR1.out HBY.out).mono ?_); rintro e w2 ⟨rfl, hb⟩; have HB2 := Aside0.mk (bel_step HB1.out hb); clear hb)) | (go_at_call 53; ((with_reducible refine (mread_calls (numL L) w2 HG.out.1 HG.out.2).mono ?_); rintro e w3 ⟨rfl, hb⟩; have HB3 := Aside0.mk (bel_step HB2.out hb); clear hb)))
    go_ret2
    exact ⟨rfl, HB3.out⟩
/-- What a device's mark may be. -/
theorem dmark_cases (d : Dev) : dmark d = (0, 0) ∨ MarkOk (dmark d).1 (dmark d).2 := by
  unfold dmark
  split
  · exact .inl rfl
  · rcases readM_cases (numL (cut d.B 0 8)) with h | ⟨g, k, hk, _, h⟩
    · rw [h]; exact .inl rfl
    · rw [h]; exact .inr hk
def roomD (d : Dev) : Nat := roomN (d.B.length / 8)
/-- What Load tells of bytes. -/
def loadL (d : Dev) : List Int := if (dmark d).1 = 0 then [] else cut d.B (8 + (dmark d).2.toNat * roomD d) (roomD d)
theorem load_none (w : World) (p : Nat) (v : Value) (s f : Nat) (d : Dev) (h : HasD w p v s f d) (h0 : (dmark d).1 = 0) :
    Calls Try.prog 51 #[.pointer (some ⟨p, 0, none⟩)] w fun e w' => e = .returned (.tuple #[.slice none 0 0, .int .i64 0, .int .i64 190]) ∧ Below w.heap.size w w' := by
  have HM := Aside0.mk (dmark_calls w p v s f d h)
  rw [h0] at HM
  clear h
  go_enter Try.func51, Try.ntmps51
  go_wp2_with (go_at_call 90; ((with_reducible refine HM.out.mono ?_); rintro e w1 ⟨rfl, hb⟩; have HB1 := Aside0.mk hb; clear hb))
  go_ret3
  exact ⟨rfl, HB1.out⟩
theorem area_in {d : Dev} (h : d.Ok) {k : Int} (hk : 0 ≤ k ∧ k ≤ 1) (h8 : 8 ≤ d.B.length) : 8 + k.toNat * roomD d + roomD d ≤ d.B.length := by
  have := h.len
  unfold roomD roomN
  rcases (show k = 0 ∨ k = 1 by omega) with rfl | rfl
  · simp only [Int.toNat_zero, Nat.zero_mul]
    omega
  · simp only [Int.toNat_one, Nat.one_mul]
    omega
theorem dmark_len {d : Dev} (h : (dmark d).1 ≠ 0) : 8 ≤ d.B.length := by
  unfold dmark at h
  split at h
  · exact absurd rfl h
  · omega
theorem load_more (w : World) (p : Nat) (v : Value) (s f : Nat) (d : Dev) (h : HasD w p v s f d) (h0 : (dmark d).1 ≠ 0) :
    Calls Try.prog 51 #[.pointer (some ⟨p, 0, none⟩)] w fun e w' => ∃ A c, e = .returned (.tuple #[.slice A (loadL d).length c, .int .i64 (dmark d).1, .int .i64 0]) ∧ ReadsInt w' .u8 A (loadL d).length (loadL d) ∧ (loadL d).length ≤ c ∧ (0 < (loadL d).length → ∀ ad, A = some ad → w.heap.size ≤ ad.block) ∧ Below w.heap.size w w' := by
  have HM := Aside0.mk (dmark_calls w p v s f d h)
  have hk : MarkOk (dmark d).1 (dmark d).2 := (dmark_cases d).resolve_left (fun e => h0 (by rw [e]))
  have h8 := dmark_len h0
  have hok := h.ok
  have hmax := hok.max
  have HLL := Aside0.mk (show loadL d = _ from if_neg h0)
  have hin := area_in hok ⟨hk.2.2.1, hk.2.2.2⟩ h8
  have HW := Aside0.mk (fun (w : World) (h : HasD w p v s f d) => words_calls w p v s f d h)
  have HR := Aside0.mk (fun (w : World) => room_calls (d.B.length / 8) w (by omega))
  obtain ⟨m, hm⟩ : ∃ m, m = d.B.length / 8 := ⟨_, rfl⟩
  rw [← hm] at HW HR
  obtain ⟨g, hg⟩ : ∃ g, g = (dmark d).1 := ⟨_, rfl⟩
  obtain ⟨k, hkk⟩ : ∃ g : Nat, (g : Int) = (dmark d).2 := ⟨(dmark d).2.toNat, Int.toNat_of_nonneg hk.2.2.1⟩
  have hk1 : k ≤ 1 := by have := hk.2.2.2; omega
  rw [← hkk] at HM hin HLL
  rw [← hg] at HM h0 ⊢
  rw [Int.toNat_natCast] at hin HLL
  obtain ⟨n, hn⟩ : ∃ n, n = roomD d := ⟨_, rfl⟩
  rw [show roomN m = n by rw [hm]; exact hn.symm] at HR
  rw [← hn] at hin HLL
  have e1 : IntKind.i64.wrap ((k : Int) * n) = ((k * n : Nat) : Int) := by
    rw [IntWalk.i64_in]
    · push_cast; rfl
    · rcases (show k = 0 ∨ k = 1 by omega) with rfl | rfl <;> omega
  have hkn : k * n ≤ 65536 := by rcases (show k = 0 ∨ k = 1 by omega) with rfl | rfl <;> omega
  have e2 : IntKind.i64.wrap (8 + ((k * n : Nat) : Int)) = ((8 + k * n : Nat) : Int) := by
    rw [IntWalk.i64_in _ (by omega)]
    push_cast; rfl
  have HH := Aside0.mk h
  have h02 : (g == 0) = false := by simpa using h0
  have HI := Aside0.mk (show insE d.B.length ((8 + k * n : Nat) : Int) n = 0 by unfold insE; rw [if_neg (by omega), if_neg (by push_cast; omega)])
  generalize 8 + k * n = a at *
  generalize k * n = kn at *
  rw [HLL.out]
  have HCL := Aside0.mk (show (cut d.B a n).length = n from cut_length (by omega))
  clear h hok hk h8 hg hkk h0 hm hn
  go_enter Try.func51, Try.ntmps51
  go_wp2_with (first | (go_at_call 90; ((with_reducible refine HM.out.mono ?_); rintro e w1 ⟨rfl, hb⟩; have HB1 := Aside0.mk hb; have HD1 := Aside0.mk (HH.out.move hb); clear hb)) | (go_at_call 91; ((with_reducible refine (HW.out _ HD1.out).mono ?_); rintro e w2 ⟨rfl, rfl⟩)) | (go_at_call 50; ((with_reducible refine (HR.out _).mono ?_); rintro e w2 ⟨rfl, rfl⟩)) | (go_at_call 31; ((with_reducible refine (read_good _ p v s f d a n HD1.out HI.out).mono ?_); rintro e w2 ⟨u, rfl, hu, hb⟩; obtain ⟨A2, c2, rfl, hcc, hr⟩ := reads_own2 hu; have HR2 := Aside0.mk hr; have HCC := Aside0.mk hcc; have HGG := Aside0.mk (fun h0 ad e => Nat.le_trans HB1.out.size (own_base hu h0 ad e)); have HB2 := Aside0.mk (bel_step HB1.out hb); clear hb hu hr hcc)))
  go_ret3
  exact ⟨A2, c2, rfl, HR2.out, HCC.out, HGG.out, HB2.out⟩
theorem load_some (w : World) (p : Nat) (v : Value) (s f : Nat) (d : Dev) (h : HasD w p v s f d) (h0 : (dmark d).1 ≠ 0) :
    Calls Try.prog 51 #[.pointer (some ⟨p, 0, none⟩)] w fun e w' => ∃ A c, e = .returned (.tuple #[.slice A (loadL d).length c, .int .i64 (dmark d).1, .int .i64 0]) ∧ ReadsInt w' .u8 A (loadL d).length (loadL d) ∧ Below w.heap.size w w' :=
  (load_more w p v s f d h h0).mono fun e w' ⟨A, c, he, hr, _, _, hb⟩ => ⟨A, c, he, hr, hb⟩
end Go.Proofs.Ytbfogcckbhkciaa.Hand
