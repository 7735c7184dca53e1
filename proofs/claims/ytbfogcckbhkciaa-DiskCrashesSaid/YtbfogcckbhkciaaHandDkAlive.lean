/- The check that every law of layer 19 makes. -/
import Derived.Test.YtbfogcckbhkciaaHandDk6
import Derived.Test.YtbfogcckbhkciaaHandPmLaw
import Derived.Deep.RegionHeld
namespace Go.Proofs.Ytbfogcckbhkciaa.Hand
open Go.RowKit Go.Maps Go.Proofs.YtbfogcckbhkciaaW.PrintWords
set_option linter.unusedVariables false
set_option linter.unusedSimpArgs false
def dk0 : Dev := Dev.of (List.replicate 56 0)
def dkX : List Int := 120 :: List.replicate 23 0
def dk1 : Dev := dk0.save dkX
def dk2 : Dev := dk1.crash []
theorem dk_mark0 : dmark dk0 = (0, 0) := by decide +kernel
theorem dk_full : ¬ FullD dk0 dkX := by decide +kernel
theorem dk_mark2 : dmark dk2 = (1, 0) := by decide +kernel
theorem dk_load2 : loadL dk2 = dkX := by decide +kernel
theorem dk_read : readM (markN 5 1) = (5, 1, true) := readM_mark (by decide)
theorem dkX_reads (w : World) : ReadsInt (w.alloc (.cells ((madeCells #[.int .u8 0] 24).setIfInBounds 0 (.int .u8 120)) 5)) .u8 (some ⟨w.heap.size, 0, none⟩) 24 dkX := by
  refine ⟨rfl, by decide, fun _ => ⟨_, rfl, fun j hj => ?_⟩⟩
  rw [add_plain, Nat.zero_add]
  refine blk_cell (heap_alloc_new w _) ?_
  by_cases h0 : j = 0
  · subst h0
    simp [madeCells, dkX]
  · obtain ⟨i, rfl⟩ : ∃ i, j = i + 1 := ⟨j - 1, by omega⟩
    have hi : i < 23 := by omega
    rw [Array.getElem?_setIfInBounds_ne (by omega), dkX, List.getD_cons_succ, List.getD_eq_getElem?_getD, List.getElem?_replicate, if_pos hi]
    simp [madeCells, hj, Nat.mod_one]
theorem dkX_bys : Bys dkX := by
  intro x hx
  rcases List.mem_cons.1 hx with rfl | hx
  · decide
  · rw [List.eq_of_mem_replicate hx]
    decide
section
variable (w : World) (p : Nat) (v : Value) (s f : Nat)
theorem dka_save (A : Option Addr) (c : Nat) (h : HasD w p v s f dk0) (hr : ReadsInt w .u8 A 24 dkX) : Calls Try.prog 49 #[.pointer (some ⟨p, 0, none⟩), .slice A 24 c] w fun e w' => e = .returned (.int .i64 0) ∧ HasD w' p v s f dk1 ∧ Fr (OwnD v s f) w w' :=
  save_good w p v s f dk0 A c dkX h hr dkX_bys dk_full
theorem dka_crash (h : HasD w p v s f dk1) : Calls Try.prog 30 #[.pointer (some ⟨p, 0, none⟩), .slice none 0 0] w fun e w' => e = .returned (.tuple #[]) ∧ HasD w' p v s f dk2 ∧ Fr (OwnD v s f) w w' :=
  crash_calls w p v s f dk1 none 0 [] h ⟨rfl, by decide, fun h => absurd h (by decide)⟩ (fun h => absurd h (by decide))
theorem dka_load (h : HasD w p v s f dk2) : Calls Try.prog 51 #[.pointer (some ⟨p, 0, none⟩)] w fun e w' => ∃ A c, e = .returned (.tuple #[.slice A 24 c, .int .i64 1, .int .i64 0]) ∧ ReadsInt w' .u8 A 24 dkX ∧ Below w.heap.size w w' := by
  have := load_some w p v s f dk2 h (by rw [dk_mark2]; decide)
  rw [dk_load2, dk_mark2] at this
  exact this
theorem dka_mark : Calls Try.prog 52 #[.int .i64 5, .int .i64 1] w fun e w' => e = .returned (.int .u64 (markN 5 1)) ∧ Below w.heap.size w w' := mark_calls 5 1 w
theorem dka_read : Calls Try.prog 53 #[.int .u64 (markN 5 1)] w fun e w' => e = .returned (.tuple #[.int .i64 5, .int .i64 1, .bool true]) ∧ Below w.heap.size w w' := by
  have := mread_calls (markN 5 1) w (markN_range 5 1).1 (markN_range 5 1).2
  rw [dk_read] at this
  exact this
theorem dka_room : Calls Try.prog 50 #[.int .i64 7] w fun e w' => e = .returned (.int .i64 24) ∧ w = w' := room_calls 7 w (by omega)
end
set_option maxRecDepth 100000 in
theorem dk_alive (w : World) : Calls Try.prog 48 #[] w fun e w' => e = .returned (.bool true) ∧ Below w.heap.size w w' := by
  have HN := Aside0.mk (show Calls Try.prog 27 #[.int .i64 7] w (NewDev w (List.replicate 56 0)) from new_calls w 7 (by omega))
  have km := print_make_int (P := Try.prog) 23 5 (.int .u8 0) 1 Try.underlying23 info_u8 rfl (by decide) 24 (by omega) (by omega)
  rw [show (24 : Int).toNat = 24 by rfl] at km
  go_enter Try.func48, Try.ntmps48
  go_wp2_with (first | (go_at_call 27; ((with_reducible refine HN.out.mono ?_); rintro e w1 ⟨p, v, s, f, rfl, hd1, hp1, hv1, hb1⟩; have HD1 := Aside0.mk (show HasD w1 p v s f dk0 from hd1); have HV := Aside0.mk hv1; have HB1 := Aside0.mk hb1; clear hd1 hp1 hv1 hb1)) | (go_at_call 51; ((with_reducible refine (load_none _ p v s f _ HD1.out (by rw [dk_mark0])).mono ?_); rintro e w2 ⟨rfl, hb⟩; have HD2 := Aside0.mk (HD1.out.move hb); have HB2 := Aside0.mk (bel_step HB1.out hb); have hz0 := (blk_cell (heap_alloc_new w2 (.cells (madeCells #[.int .u8 0] 24) 5)) (i := 0) (v := .int .u8 0) (by simp [madeCells])); have hz1 := blk_free (heap_alloc_new w2 (.cells (madeCells #[.int .u8 0] 24) 5)) 0; clear hb)) | (go_at_call 49; ((with_reducible refine (dka_save _ p v s f (some ⟨w2.heap.size, 0, none⟩) 24 (HD2.out.move (below_alloc (Below.refl _ _) _)) (dkX_reads w2)).mono ?_); rintro e w3 ⟨rfl, hd, hf⟩; have HD3 := Aside0.mk hd; have HB3 := Aside0.mk ((below_alloc HB2.out _).trans (hf.below _ (below_alloc HB2.out _).size (fun b hb => HV.out b hb))); have HX3 := Aside0.mk (dev_keep (base := w2.heap.size) (dkX_reads w2) (fun ad e => by obtain rfl := Option.some.inj e; exact Nat.le_refl _) hf (fun b hb => HD2.out.own_lt hb)); clear hd hf)) | (go_at_call 30; ((with_reducible refine (dka_crash _ p v s f HD3.out).mono ?_); rintro e w4 ⟨rfl, hd, hf⟩; have HD4 := Aside0.mk hd; have HB4 := Aside0.mk (HB3.out.trans (hf.below _ HB3.out.size (fun b hb => HV.out b hb))); have HX4 := Aside0.mk (dev_keep (base := w2.heap.size) HX3.out (fun ad e => by obtain rfl := Option.some.inj e; exact Nat.le_refl _) hf (fun b hb => HD2.out.own_lt hb)); clear hd hf)) | (go_at_call 51; ((with_reducible refine (dka_load _ p v s f HD4.out).mono ?_); rintro e w5 ⟨A5, c5, rfl, hr, hb⟩; have HB5 := Aside0.mk (bel_step HB4.out hb); have HR5 := Aside0.mk hr; have HX5 := Aside0.mk (HX4.out.below hb); clear hr hb)) | (go_at_call 52; ((with_reducible refine (dka_mark _).mono ?_); rintro e w6 ⟨rfl, hb⟩; have HB6 := Aside0.mk (bel_step HB5.out hb); have HR6 := Aside0.mk (HR5.out.below hb); have HX6 := Aside0.mk (HX5.out.below hb); clear hb)) | (go_at_call 53; ((with_reducible refine (dka_read _).mono ?_); rintro e w7 ⟨rfl, hb⟩; have HB7 := Aside0.mk (bel_step HB6.out hb); have HR7 := Aside0.mk (HR6.out.below hb); have HX7 := Aside0.mk (show ReadsInt w7 .u8 (some ⟨w2.heap.size, 0, none⟩) 24 dkX from HX6.out.below hb); have hcv := conv_n (c := c5) HR7.out; have hcx := conv_n (c := 24) HX7.out; clear hb)) | (go_at_call 50; ((with_reducible refine (dka_room _).mono ?_); rintro e w8 ⟨rfl, rfl⟩)))
  go_ret
  exact ⟨rfl, HB7.out⟩
end Go.Proofs.Ytbfogcckbhkciaa.Hand
