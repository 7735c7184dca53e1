/- DiskCrashes: the walk. -/
import Derived.Test.YtbfogcckbhkciaaHandDkC
import Derived.Deep.RegionHeld
import Derived.Test.YtbfogcckbhkciaaWLast
namespace Go.Proofs.Ytbfogcckbhkciaa.Hand
open Go.RowKit Go.Maps Go.Proofs.YtbfogcckbhkciaaW.PrintWords Go.Proofs.YtbfogcckbhkciaaW.PrintLast
set_option linter.unusedVariables false
set_option linter.unusedSimpArgs false
def firstL : List Int := [102, 105, 114, 115, 116]
theorem firstL_bys : Bys firstL := by simp [firstL, Bys]
set_option maxRecDepth 100000 in
theorem dcrash_long (A : Option Addr) (c : Nat) (l : List Int) (B : Option Addr) (e : Nat) (m : List Int) (K : Option Addr) (kc : Nat) (ks : List Int) (w : World) (hr : ReadsInt w .u8 A l.length l) (hb : Bys l) (hs : ReadsInt w .u8 B m.length m) (hbm : Bys m) (hk : ReadsInt w .i64 K ks.length ks) (h : 120 < l.length ∨ 120 < m.length ∨ 100 < ks.length) : Calls Try.prog 18 #[.slice A l.length c, .slice B m.length e, .slice K ks.length kc] w fun e w' => e = .returned (.bool true) ∧ Below w.heap.size w w' := by
  have HN := Aside0.mk (show Calls Try.prog 27 #[.int .i64 31] w (NewDev w (List.replicate 248 0)) from new_calls w 31 (by omega))
  have hl := hr.2.1
  have hm := hs.2.1
  have hkl := hk.2.1
  clear hr hb hs hbm hk
  rcases (show 120 < l.length ∨ (¬ 120 < l.length ∧ 120 < m.length) ∨ (¬ 120 < l.length ∧ ¬ 120 < m.length ∧ 100 < ks.length) by omega) with h1 | ⟨h1, h2⟩ | ⟨h1, h2, h3⟩
  all_goals
    clear h
    go_enter Try.func18, Try.ntmps18
    go_wp2_with (first | (go_at_call 27; ((with_reducible refine HN.out.mono ?_); rintro e w1 ⟨p, v, s, f, rfl, hd1, hp1, hv1, hb1⟩; have HB1 := Aside0.mk hb1; clear hd1 hp1 hv1 hb1)) | (go_at_call 48; ((with_reducible refine (dk_alive _).mono ?_); rintro e w3 ⟨rfl, hb⟩; have HB3 := Aside0.mk (bel_step HB1.out hb); clear hb)))
    all_goals
      go_ret
      exact ⟨rfl, HB3.out⟩
/-- The device of the statement: two savings ahead. -/
def crD (l : List Int) : Dev := ((Dev.of (List.replicate 248 0)).save firstL).save l
theorem crD_plain {l m : List Int} (hl : l.length ≤ 120) (hm : m.length ≤ 120) : ¬ FullD (Dev.of (List.replicate 248 0)) firstL ∧ ¬ FullD ((Dev.of (List.replicate 248 0)).save firstL) l ∧
    ¬ FullD (crD l) m ∧ ∃ W rest, Cln (crD l) 31 W ∧ mkW (W 0) = (2, 1) ∧ (dmark (crD l)).1 = 2 ∧ loadL (crD l) = l ++ rest ∧ (l ++ rest).length = 120 := by
  have h0 : Cln (Dev.of (List.replicate 248 0)) 31 (fun _ => List.replicate 8 0) := zeros_cln 31
  rw [crD]
  generalize Dev.of (List.replicate 248 0) = d at *
  have f0 : ¬ FullD d firstL := full_is h0 (by omega) (by decide) (by simp only [mkW_zero]; decide)
  have h1 := save_cln h0 (by omega) f0
  have k1 := saved_mark h0 (by omega) f0
  simp only [mkW_zero] at k1
  rw [if_pos trivial] at k1
  generalize hW : savedW 31 firstL (fun _ => List.replicate 8 0) = W1 at *
  have f1 : ¬ FullD (d.save firstL) l := full_is h1 (by omega) (by omega) (by rw [k1]; decide)
  have h2 := save_cln h1 (by omega) f1
  have k2 := saved_mark h1 (by omega) f1
  rw [k1, if_neg (by decide)] at k2
  obtain ⟨r2, e2, z2⟩ := saved_load h1 (by omega) f1
  have f2 : ¬ FullD ((d.save firstL).save l) m := full_is h2 (by omega) (by omega) (by rw [k2]; decide)
  exact ⟨f0, f1, f2, _, r2, h2, k2, by rw [Is.mark h2 (by omega), k2]; rfl, e2, by omega⟩
theorem stepsD_count (d : Dev) (l : List Int) : (stepsD d l).length = (padL l).length / 8 + 5 := by rw [stepsD, List.length_append, wrsN, List.length_map, List.length_range]; rfl
theorem own_fromq {v : Value} {s f n m : Nat} (h : ∀ b, OwnD v s f b → n ≤ b) (hm : m ≤ n) : ∀ b, some b = v.ownBlock → m ≤ b := fun b hb => Nat.le_trans hm (h b (Or.inl hb))
theorem read_move5 {v : Value} {s f : Nat} {w w1 : World} {A : Option Addr} {x : List Int} {base n : Nat} (hr : ReadsInt w .u8 A n x) (hf : Fr (OwnD v s f) w w1) (hg : ∀ ad, A = some ad → base ≤ ad.block) (hs : ∀ b, OwnD v s f b → b < base) : ReadsInt w1 .u8 A n x :=
  reads_frA hr hf (fun _ ad e h1 => absurd (hs _ h1) (Nat.not_lt.2 (hg ad e)))
theorem stepsD_five (d : Dev) (l : List Int) : 5 ≤ (stepsD d l).length := by rw [stepsD, List.length_append]; simp
set_option maxRecDepth 100000 in
set_option maxHeartbeats 4000000 in
theorem dcrash_good (A : Option Addr) (c : Nat) (l : List Int) (B : Option Addr) (e : Nat) (m : List Int) (K : Option Addr) (kc : Nat) (ks : List Int) (w : World) (hr : ReadsInt w .u8 A l.length l) (hb : Bys l) (hs : ReadsInt w .u8 B m.length m) (hbm : Bys m) (hk : ReadsInt w .i64 K ks.length ks) (h1 : l.length ≤ 120) (h2 : m.length ≤ 120) (h3 : ks.length ≤ 100) : Calls Try.prog 18 #[.slice A l.length c, .slice B m.length e, .slice K ks.length kc] w fun e w' => e = .returned (.bool true) ∧ Below w.heap.size w w' := by
  have HN := Aside0.mk (show Calls Try.prog 27 #[.int .i64 31] w fun e w' => ∃ (q : Nat) (u : Value) (s f : Nat), e = .returned (.tuple #[.pointer (some ⟨q, 0, none⟩), .int .i64 0]) ∧ HasD w' q u s f (Dev.of (List.replicate 248 0)) ∧ w.heap.size ≤ q ∧ (∀ b, OwnD u s f b → w.heap.size ≤ b) ∧ Below w.heap.size w w' from new_calls w 31 (by omega))
  obtain ⟨f0, f1, f2, W, rest, hcl, hmk, hg2, hld, hlen⟩ := crD_plain h1 h2
  obtain ⟨d0, hd0⟩ : ∃ d0, d0 = Dev.of (List.replicate 248 0) := ⟨_, rfl⟩
  obtain ⟨d1, hd1⟩ : ∃ d1, d1 = d0.save firstL := ⟨_, rfl⟩
  obtain ⟨d, hd⟩ : ∃ d, d = crD l := ⟨_, rfl⟩
  have hdd : d = d1.save l := by rw [hd, crD, hd1, hd0]
  rw [← hd0] at f0 f1 HN
  rw [← hd1] at f1
  rw [← hd] at f2 hcl hg2 hld
  have HRA := Aside0.mk hr
  have HRB := Aside0.mk hs
  have HRK := Aside0.mk hk
  have HBM := Aside0.mk hbm
  have HF2 := Aside0.mk f2
  have HCL := Aside0.mk hcl
  have HMK := Aside0.mk hmk
  have HSF := Aside0.mk (fun (w : World) (p : Nat) (v : Value) (s f : Nat) (g : Nat) (hh : HasD w p v s f d0) (hr : ReadsInt w .u8 (some ⟨g, 0, none⟩) 5 firstL) => show Calls Try.prog 49 #[.pointer (some ⟨p, 0, none⟩), .slice (some ⟨g, 0, none⟩) 5 5] w (fun e w' => e = .returned (.int .i64 0) ∧ HasD w' p v s f d1 ∧ Fr (OwnD v s f) w w') from by rw [hd1]; exact save_good w p v s f d0 (some ⟨g, 0, none⟩) 5 firstL hh hr firstL_bys f0)
  have HSA := Aside0.mk (fun (w : World) (p : Nat) (v : Value) (s f : Nat) (hh : HasD w p v s f d1) (hr : ReadsInt w .u8 A l.length l) => show Calls Try.prog 49 #[.pointer (some ⟨p, 0, none⟩), .slice A l.length c] w (fun e w' => e = .returned (.int .i64 0) ∧ HasD w' p v s f d ∧ Fr (OwnD v s f) w w') from by rw [hdd]; exact save_good w p v s f d1 A c l hh hr hb f1)
  have HLD := Aside0.mk (fun (w : World) (p : Nat) (v : Value) (s f : Nat) (hh : HasD w p v s f d) => show Calls Try.prog 51 #[.pointer (some ⟨p, 0, none⟩)] w (fun e w' => ∃ A c, e = .returned (.tuple #[.slice A 120 c, .int .i64 2, .int .i64 0]) ∧ ReadsInt w' .u8 A 120 (l ++ rest) ∧ 120 ≤ c ∧ (0 < 120 → ∀ ad, A = some ad → w.heap.size ≤ ad.block) ∧ Below w.heap.size w w') from by have := load_more w p v s f d hh (by rw [hg2]; decide); rw [hld, hlen, hg2] at this; exact this)
  have HLE := Aside0.mk hlen
  have HLDD := Aside0.mk hld
  have HS9 := Aside0.mk (show (stepsD d m).length ≤ 9000 by rw [stepsD_count, padL_length]; omega)
  have HOKM := Aside0.mk (stepsD_okm hbm f2)
  have kcc := fun (w : World) (C : Array Value) (n c : Nat) => Lib.run_convert_bytes_const (P := Try.prog) w 23 5 C n c Try.underlying23 Try.underlying5
  have l1 : decide (120 < (l.length : Int)) = false := decide_eq_false (by omega)
  have l2 : decide (120 < (m.length : Int)) = false := decide_eq_false (by omega)
  have l3 : decide (100 < (ks.length : Int)) = false := decide_eq_false (by omega)
  clear hr hb hs hbm hk f0 f1 f2 hcl hmk hg2 hld hlen hd0 hd1 hd hdd
  go_enter Try.func18, Try.ntmps18
  go_wp2_with (first | (go_at_call 27; ((with_reducible refine HN.out.mono ?_); rintro e w1 ⟨p, v, s, f, rfl, hd1, hp1, hv1, hb1⟩; have HD1 := Aside0.mk hd1; have HV := Aside0.mk hv1; have HB1 := Aside0.mk hb1; clear hd1 hp1 hv1 hb1)) | (go_at_call 49; (first | ((with_reducible refine (HSA.out _ p v s f HD2.out (HRA.out.below HB2.out)).mono ?_); rintro e w3 ⟨rfl, hd, hf⟩; have HD3 := Aside0.mk hd; have HB3 := Aside0.mk (HB2.out.trans (hf.below _ HB2.out.size (fun b hb => HV.out b hb))); clear hd hf) | ((with_reducible refine (HSF.out _ p v s f w1.heap.size (HD1.out.move (below_alloc (Below.refl _ _) _)) (lit_reads (l := firstL) (by decide))).mono ?_); rintro e w2 ⟨rfl, hd, hf⟩; have HD2 := Aside0.mk hd; have HB2 := Aside0.mk ((below_alloc HB1.out _).trans (hf.below _ (below_alloc HB1.out _).size (fun b hb => HV.out b hb))); clear hd hf))) | (go_at_call 51; ((with_reducible refine (HLD.out _ p v s f HD3.out).mono ?_); rintro e w4 ⟨A4, c4, rfl, hr4, hc4, hg4, hb4⟩; have HD4 := Aside0.mk (HD3.out.move hb4); have HB4 := Aside0.mk (bel_step HB3.out hb4); have HX4 := Aside0.mk hr4; have HC4 := Aside0.mk hc4; have HG4 := Aside0.mk (hg4 (by decide)); clear hr4 hc4 hg4 hb4)) | (go_at_call 54; ((with_reducible refine (begin_good _ p v s f d B e m HD4.out (HRB.out.below HB4.out) HF2.out).mono ?_); rintro e w5 ⟨u, xs, rfl, hrow, hall, hb5⟩; have HAL := Aside0.mk hall; have HD5 := Aside0.mk (HD4.out.move hb5); have HB5 := Aside0.mk (bel_step HB4.out hb5); have HK5 := Aside0.mk hb5; have HXL := Aside0.mk hall.len; have HST := Aside0.mk (stepsD_five d m); obtain ⟨g, cu, rfl, hg, hcell⟩ := row_cell hrow (by have := hall.len; have := stepsD_five d m; omega); have HCE := Aside0.mk hcell; have HG := Aside0.mk hg; have HX5 := Aside0.mk (HX4.out.below hb5); clear hrow hall hb5 hcell hg)))
  have HK5d := Aside0.mk (Below.refl w5.heap.size w5).drew
  have HQ := Aside0.mk (show ∀ W', Below w5.heap.size w5 W' → (convert 23 9 (.slice A4 l.length c4)).run Try.prog W' = .ok (.string (strOfNums l)) W' ∧ (convert 23 9 (.slice A l.length c)).run Try.prog W' = .ok (.string (strOfNums l)) W' from fun W' hW => ⟨by
      have hy : ReadsInt W' .u8 A4 (l ++ rest).length (l ++ rest) := by rw [HLE.out]; exact HX5.out.below hW
      have := conv_take (c := c4) l.length (by rw [HLE.out]; exact h1) hy
      rw [List.take_left' rfl] at this
      exact this, conv_n (HRA.out.below (bel_step HB5.out hW))⟩)
  have htk := take_run A4 c4 120 l.length h1 HC4.out (by decide)
  have hxl9 : xs.length ≤ 9000 := by have := HXL.out; have := HS9.out; omega
  have hx5 : decide ((xs.length : Int) < 5) = false := decide_eq_false (by have := HXL.out; have := HST.out; omega)
  have hx6 : decide (xs.length < 5) = false := decide_eq_false (by have := HXL.out; have := HST.out; omega)
  go_region_held (fun w' => (convert 23 9 (.slice A4 l.length c4)).run Try.prog w' = .ok (.string (strOfNums l)) w' ∧ (convert 23 9 (.slice A l.length c)).run Try.prog w' = .ok (.string (strOfNums l)) w') (exact HQ.out _ HK5d.out) (fail)
  go_wp2
  have HTO := Aside0.mk (show ∀ b, w4.heap.size ≤ b → ¬ OwnD v s f b from fun b hb ho => absurd (HD4.out.own_lt ho) (Nat.not_lt.2 hb))
  go_loopw [109] (fun iv wr => ∃ i : Nat, i ≤ xs.length + 1 ∧ iv = .int .i64 (i : Int) ∧ Aside0 (HasD wr p v s f (d.steps ((stepsD d m).take i))) ∧ Aside0 (Fr (OwnD v s f) w5 wr)) (fun iv _ => (xs.length + 1 - intOf iv).toNat)
  case atStart => exact ⟨0, Nat.zero_le _, rfl, ⟨HD5.out.move (Below.refl _ _).drew⟩, ⟨(Fr.refl _ _).drew⟩⟩
  case round =>
    obtain ⟨i, hi, rfl, HD, HF⟩ := hrel
    by_cases hlt : i < xs.length + 1
    · have z0 : decide ((i : Int) < (xs.length : Int) + 1) = true := decide_eq_true (by omega)
      have z0n : decide (i < xs.length + 1) = true := decide_eq_true (by omega)
      have HB := Aside0.mk (HB5.out.trans (HF.out.below _ HB5.out.size (fun b hb => HV.out b hb)))
      have HCP := Aside0.mk (fun (W : World) (hh : HasD W p v s f (d.steps ((stepsD d m).take i))) => copy_calls W p v s f _ hh)
      rcases step_crash HCL.out HD4.out.ok HMK.out HF2.out HBM.out ks (i := i) (by have := HXL.out; omega) with ⟨hi1, hg, hl8⟩ | ⟨hi1, hg, rest8, hl8, hn8⟩
      · have hiL : i < xs.length := by have := HXL.out; omega
        have HLC := Aside0.mk (fun (W : World) (q : Nat) (u : Value) (s f : Nat) (hh : HasD W q u s f ((d.steps ((stepsD d m).take i)).crash ks)) => show Calls Try.prog 51 #[.pointer (some ⟨q, 0, none⟩)] W (fun e w' => ∃ A c, e = .returned (.tuple #[.slice A 120 c, .int .i64 2, .int .i64 0]) ∧ ReadsInt w' .u8 A 120 (l ++ rest) ∧ Below W.heap.size W w') from by have := load_some W q u s f _ hh (by rw [hg]; decide); rw [hl8, HLDD.out, HLE.out, hg] at this; exact this)
        have z1 : decide ((i : Int) < xs.length) = true := decide_eq_true (by omega)
        have z2 : ((i : Int) == xs.length) = false := by rw [beq_eq_false_iff_ne]; omega
        clear hi1 hg hl8
        go_wp2_with (first | (go_at_call 29; ((with_reducible refine (HCP.out _ HD.out).mono ?_); rintro e w6 ⟨q, u6, s6, f6, rfl, hd6, hq6, ho6, hb6⟩; have HC6 := Aside0.mk hd6; have HO6 := Aside0.mk ho6; have HK6 := Aside0.mk hb6; clear hd6 hq6 ho6 hb6)) | (go_at_call 30; go_must ((with_reducible refine (crash_calls _ q u6 s6 f6 _ K kc ks HC6.out (HRK.out.below (bel_step HB.out HK6.out)) (reads_off HRK.out (own_fromq HO6.out HB.out.size))).mono ?_); rintro e w7 ⟨rfl, hd7, hf7⟩; have HC7 := Aside0.mk hd7; have HK7 := Aside0.mk (HK6.out.trans (hf7.below _ HK6.out.size (fun b hb => HO6.out b hb))); clear hd7 hf7)) | (go_at_call 51; ((with_reducible refine (HLC.out _ q u6 s6 f6 HC7.out).mono ?_); rintro e w8 ⟨A8, c8, rfl, hr8, hb8⟩; have HK8 := Aside0.mk (bel_step HK7.out hb8); have hcv := conv_n (c := c8) hr8; have hcw := conv_n (c := c4) ((read_move5 HX5.out HF.out HG4.out (fun b hb => HD3.out.own_lt hb)).below HK8.out); have HD8 := Aside0.mk (HD.out.move HK8.out); clear hr8 hb8)))
        have HK8d := Aside0.mk HK8.out.drew
        have HD8d := Aside0.mk (HD.out.move HK8d.out)
        refine start_ (n := 22) (S := fun w' => True) (ds := []) #[false, false, false, false, false, false, false, false, false, false, false, false, false, false, false, false, false, false, false, false, false, false] (by kernel_rfl) rfl rfl trivial (fun hHeld => ?_)
        refine pure_ (i := 0) (N := some 138) (v := ?_) (a' := ?_) #[true, false, false, false, false, false, false, false, false, false, false, false, false, false, false, false, false, false, false, false, false, false] rfl rfl (by kernel_rfl) (fun _ _ _ h => h) (Or.inl ⟨by rfl, ?_⟩) ?_ ?_
        rotate_left
        · intro w'
          go_simp
          with_reducible rfl
        rotate_left
        · simp only [Act.put, List.setIfInBounds_toArray, List.set_cons_zero, List.set_cons_succ, i64_w, i32_w]
          rfl
        refine pure_ (i := 1) (N := some 139) (v := ?_) (a' := ?_) #[true, true, false, false, false, false, false, false, false, false, false, false, false, false, false, false, false, false, false, false, false, false] rfl rfl (by kernel_rfl) (fun _ _ _ h => h) (Or.inl ⟨by rfl, ?_⟩) ?_ ?_
        rotate_left
        · intro w'
          go_simp
          with_reducible rfl
        rotate_left
        · simp only [Act.put, List.setIfInBounds_toArray, List.set_cons_zero, List.set_cons_succ, i64_w, i32_w]
          rfl
        refine pure_ (i := 2) (N := some 140) (v := ?_) (a' := ?_) #[true, true, true, false, false, false, false, false, false, false, false, false, false, false, false, false, false, false, false, false, false, false] rfl rfl (by kernel_rfl) (fun _ _ _ h => h) (Or.inl ⟨by rfl, ?_⟩) ?_ ?_
        rotate_left
        · intro w'
          go_simp
          with_reducible rfl
        rotate_left
        · simp only [Act.put, List.setIfInBounds_toArray, List.set_cons_zero, List.set_cons_succ, i64_w, i32_w]
          rfl
        refine pure_ (i := 3) (N := some 141) (v := ?_) (a' := ?_) #[true, true, true, true, false, false, false, false, false, false, false, false, false, false, false, false, false, false, false, false, false, false] rfl rfl (by kernel_rfl) (fun _ _ _ h => h) (Or.inl ⟨by rfl, ?_⟩) ?_ ?_
        rotate_left
        · intro w'
          go_simp
          with_reducible rfl
        rotate_left
        · simp only [Act.put, List.setIfInBounds_toArray, List.set_cons_zero, List.set_cons_succ, i64_w, i32_w]
          rfl
        refine pure_ (i := 4) (N := some 142) (v := ?_) (a' := ?_) #[true, true, true, true, true, false, false, false, false, false, false, false, false, false, false, false, false, false, false, false, false, false] rfl rfl (by kernel_rfl) (fun _ _ _ h => h) (Or.inl ⟨by rfl, ?_⟩) ?_ ?_
        rotate_left
        · intro w'
          go_simp
          with_reducible rfl
        rotate_left
        · simp only [Act.put, List.setIfInBounds_toArray, List.set_cons_zero, List.set_cons_succ, i64_w, i32_w]
          rfl
        refine pure_ (i := 5) (N := some 143) (v := ?_) (a' := ?_) #[true, true, true, true, true, true, false, false, false, false, false, false, false, false, false, false, false, false, false, false, false, false] rfl rfl (by kernel_rfl) (fun _ _ _ h => h) (Or.inl ⟨by rfl, ?_⟩) ?_ ?_
        rotate_left
        · intro w'
          go_simp
          with_reducible rfl
        rotate_left
        · simp only [Act.put, List.setIfInBounds_toArray, List.set_cons_zero, List.set_cons_succ, i64_w, i32_w]
          rfl
        refine pure_ (i := 6) (N := some 144) (v := ?_) (a' := ?_) #[true, true, true, true, true, true, true, false, false, false, false, false, false, false, false, false, false, false, false, false, false, false] rfl rfl (by kernel_rfl) (fun _ _ _ h => h) (Or.inl ⟨by rfl, ?_⟩) ?_ ?_
        rotate_left
        · intro w'
          go_simp
          with_reducible rfl
        rotate_left
        · simp only [Act.put, List.setIfInBounds_toArray, List.set_cons_zero, List.set_cons_succ, i64_w, i32_w]
          rfl
        refine pure_ (i := 7) (N := some 145) (v := undef) (a' := ?_) #[true, true, true, true, true, true, true, true, false, false, false, false, false, false, false, false, false, false, false, false, false, false] rfl rfl (by kernel_rfl) (fun _ _ _ h => h) (Or.inr ⟨by rfl, rfl⟩) ?_ ?_
        rotate_left
        · simp only [Act.put, List.setIfInBounds_toArray, List.set_cons_zero, List.set_cons_succ, i64_w, i32_w]
          rfl
        refine pure_ (i := 8) (N := some 146) (v := undef) (a' := ?_) #[true, true, true, true, true, true, true, true, true, false, false, false, false, false, false, false, false, false, false, false, false, false] rfl rfl (by kernel_rfl) (fun _ _ _ h => h) (Or.inr ⟨by rfl, rfl⟩) ?_ ?_
        rotate_left
        · simp only [Act.put, List.setIfInBounds_toArray, List.set_cons_zero, List.set_cons_succ, i64_w, i32_w]
          rfl
        refine pure_ (i := 9) (N := some 147) (v := undef) (a' := ?_) #[true, true, true, true, true, true, true, true, true, true, false, false, false, false, false, false, false, false, false, false, false, false] rfl rfl (by kernel_rfl) (fun _ _ _ h => h) (Or.inr ⟨by rfl, rfl⟩) ?_ ?_
        rotate_left
        · simp only [Act.put, List.setIfInBounds_toArray, List.set_cons_zero, List.set_cons_succ, i64_w, i32_w]
          rfl
        refine pure_ (i := 10) (N := some 148) (v := ?_) (a' := ?_) #[true, true, true, true, true, true, true, true, true, true, true, false, false, false, false, false, false, false, false, false, false, false] rfl rfl (by kernel_rfl) (fun _ _ _ h => h) (Or.inl ⟨by rfl, ?_⟩) ?_ ?_
        rotate_left
        · intro w'
          go_simp
          with_reducible rfl
        rotate_left
        · simp only [Act.put, List.setIfInBounds_toArray, List.set_cons_zero, List.set_cons_succ, i64_w, i32_w]
          rfl
        refine pure_ (i := 11) (N := some 149) (v := ?_) (a' := ?_) #[true, true, true, true, true, true, true, true, true, true, true, true, false, false, false, false, false, false, false, false, false, false] rfl rfl (by kernel_rfl) (fun _ _ _ h => h) (Or.inl ⟨by rfl, ?_⟩) ?_ ?_
        rotate_left
        · intro w'
          go_simp
          with_reducible rfl
        rotate_left
        · simp only [Act.put, List.setIfInBounds_toArray, List.set_cons_zero, List.set_cons_succ, i64_w, i32_w]
          rfl
        refine pure_ (i := 12) (N := some 150) (v := undef) (a' := ?_) #[true, true, true, true, true, true, true, true, true, true, true, true, true, false, false, false, false, false, false, false, false, false] rfl rfl (by kernel_rfl) (fun _ _ _ h => h) (Or.inr ⟨by rfl, rfl⟩) ?_ ?_
        rotate_left
        · simp only [Act.put, List.setIfInBounds_toArray, List.set_cons_zero, List.set_cons_succ, i64_w, i32_w]
          rfl
        refine pure_ (i := 13) (N := some 151) (v := undef) (a' := ?_) #[true, true, true, true, true, true, true, true, true, true, true, true, true, true, false, false, false, false, false, false, false, false] rfl rfl (by kernel_rfl) (fun _ _ _ h => h) (Or.inr ⟨by rfl, rfl⟩) ?_ ?_
        rotate_left
        · simp only [Act.put, List.setIfInBounds_toArray, List.set_cons_zero, List.set_cons_succ, i64_w, i32_w]
          rfl
        refine pure_ (i := 14) (N := some 152) (v := undef) (a' := ?_) #[true, true, true, true, true, true, true, true, true, true, true, true, true, true, true, false, false, false, false, false, false, false] rfl rfl (by kernel_rfl) (fun _ _ _ h => h) (Or.inr ⟨by rfl, rfl⟩) ?_ ?_
        rotate_left
        · simp only [Act.put, List.setIfInBounds_toArray, List.set_cons_zero, List.set_cons_succ, i64_w, i32_w]
          rfl
        refine pure_ (i := 15) (N := some 153) (v := undef) (a' := ?_) #[true, true, true, true, true, true, true, true, true, true, true, true, true, true, true, true, false, false, false, false, false, false] rfl rfl (by kernel_rfl) (fun _ _ _ h => h) (Or.inr ⟨by rfl, rfl⟩) ?_ ?_
        rotate_left
        · simp only [Act.put, List.setIfInBounds_toArray, List.set_cons_zero, List.set_cons_succ, i64_w, i32_w]
          rfl
        refine pure_ (i := 16) (N := some 154) (v := undef) (a' := ?_) #[true, true, true, true, true, true, true, true, true, true, true, true, true, true, true, true, true, false, false, false, false, false] rfl rfl (by kernel_rfl) (fun _ _ _ h => h) (Or.inr ⟨by rfl, rfl⟩) ?_ ?_
        rotate_left
        · simp only [Act.put, List.setIfInBounds_toArray, List.set_cons_zero, List.set_cons_succ, i64_w, i32_w]
          rfl
        refine pure_ (i := 17) (N := some 155) (v := undef) (a' := ?_) #[true, true, true, true, true, true, true, true, true, true, true, true, true, true, true, true, true, true, false, false, false, false] rfl rfl (by kernel_rfl) (fun _ _ _ h => h) (Or.inr ⟨by rfl, rfl⟩) ?_ ?_
        rotate_left
        · simp only [Act.put, List.setIfInBounds_toArray, List.set_cons_zero, List.set_cons_succ, i64_w, i32_w]
          rfl
        refine pure_ (i := 18) (N := some 156) (v := undef) (a' := ?_) #[true, true, true, true, true, true, true, true, true, true, true, true, true, true, true, true, true, true, true, false, false, false] rfl rfl (by kernel_rfl) (fun _ _ _ h => h) (Or.inr ⟨by rfl, rfl⟩) ?_ ?_
        rotate_left
        · simp only [Act.put, List.setIfInBounds_toArray, List.set_cons_zero, List.set_cons_succ, i64_w, i32_w]
          rfl
        refine pure_ (i := 19) (N := some 157) (v := undef) (a' := ?_) #[true, true, true, true, true, true, true, true, true, true, true, true, true, true, true, true, true, true, true, true, false, false] rfl rfl (by kernel_rfl) (fun _ _ _ h => h) (Or.inr ⟨by rfl, rfl⟩) ?_ ?_
        rotate_left
        · simp only [Act.put, List.setIfInBounds_toArray, List.set_cons_zero, List.set_cons_succ, i64_w, i32_w]
          rfl
        refine pure_ (i := 20) (N := some 158) (v := ?_) (a' := ?_) #[true, true, true, true, true, true, true, true, true, true, true, true, true, true, true, true, true, true, true, true, true, false] rfl rfl (by kernel_rfl) (fun _ _ _ h => h) (Or.inl ⟨by rfl, ?_⟩) ?_ ?_
        rotate_left
        · intro w'
          go_simp
          with_reducible rfl
        rotate_left
        · simp only [Act.put, List.setIfInBounds_toArray, List.set_cons_zero, List.set_cons_succ, i64_w, i32_w]
          rfl
        refine pure_ (i := 21) (N := some 20) (v := ?_) (a' := ?_) #[true, true, true, true, true, true, true, true, true, true, true, true, true, true, true, true, true, true, true, true, true, true] rfl rfl (by kernel_rfl) (fun _ _ _ h => h) (Or.inl ⟨by rfl, ?_⟩) ?_ ?_
        rotate_left
        · intro w'
          go_simp
          with_reducible rfl
        rotate_left
        · simp only [Act.put, List.setIfInBounds_toArray, List.set_cons_zero, List.set_cons_succ, i64_w, i32_w]
          rfl
        refine done_ (by kernel_rfl) ?_

        obtain ⟨x, hx⟩ : ∃ x, xs[i]? = some x := ⟨_, List.getElem?_eq_getElem hiL⟩
        obtain ⟨y, hy, hst1⟩ := HAL.out.get hx
        have hst := hst1.move HF.out HTO.out
        have HXC := Aside0.mk (HF.out.cell (HCE.out i x hx) (HTO.out _ HG.out))
        have HTK := Aside0.mk (take_steps (d := d) hy)
        have hok := HOKM.out y (List.mem_of_getElem? hy)
        clear hst1 hy hx
        cases x with
        | wr bd ba bx =>
          cases y with
          | wr a z =>
            have HDO := Aside0.mk (fun (W : World) (hb : Below wr.heap.size wr W) (hh : HasD W p v s f (d.steps ((stepsD d m).take i))) => step_wr W p v s f _ _ bd ba bx a z hh (hst.move (S := fun _ => False) (Fr.of_below hb _) (fun _ _ h => h)) hok)
            clear hst hok
            simp only [encS] at HXC
            have hcx := bel_cell HK8d.out HXC.out
            go_wp2_with (go_at_call 96; ((with_reducible refine (HDO.out _ HK8d.out HD8d.out).mono ?_); rintro e w9 ⟨rfl, hd9, hf9⟩; have HD9 := Aside0.mk hd9; have HF9 := Aside0.mk ((HF.out.then_below HK8d.out).trans' hf9); clear hd9 hf9))
            all_goals
              refine ⟨⟨i + 1, by omega, by go_num, ⟨?_⟩, HF9⟩, by simp [intOf]; omega⟩
              rw [HTK.out]
              exact HD9.out
          | fl a z => exact hst.elim
          | fe => exact hst.elim
        | fl bd ba bx =>
          cases y with
          | fl a z =>
            have HDO := Aside0.mk (fun (W : World) (hb : Below wr.heap.size wr W) (hh : HasD W p v s f (d.steps ((stepsD d m).take i))) => step_fl W p v s f _ _ bd ba bx a z hh (hst.move (S := fun _ => False) (Fr.of_below hb _) (fun _ _ h => h)))
            clear hst hok
            simp only [encS] at HXC
            have hcx := bel_cell HK8d.out HXC.out
            go_wp2_with (go_at_call 98; ((with_reducible refine (HDO.out _ HK8d.out HD8d.out).mono ?_); rintro e w9 ⟨rfl, hd9, hf9⟩; have HD9 := Aside0.mk hd9; have HF9 := Aside0.mk ((HF.out.then_below HK8d.out).trans' hf9); clear hd9 hf9))
            all_goals
              refine ⟨⟨i + 1, by omega, by go_num, ⟨?_⟩, HF9⟩, by simp [intOf]; omega⟩
              rw [HTK.out]
              exact HD9.out
          | wr a z => exact hst.elim
          | fe => exact hst.elim
        | fe q9 =>
          cases y with
          | fe =>
            obtain rfl : q9 = p := hst
            have HDO := Aside0.mk (fun (W : World) (hb : Below wr.heap.size wr W) (hh : HasD W q9 v s f _) => step_fe W q9 v s f (d.steps ((stepsD d m).take i)) hh)
            clear hok
            simp only [encS] at HXC
            have hcx := bel_cell HK8d.out HXC.out
            go_wp2_with (go_at_call 24; ((with_reducible refine (HDO.out _ HK8d.out HD8d.out).mono ?_); rintro e w9 ⟨rfl, hd9, hf9⟩; have HD9 := Aside0.mk hd9; have HF9 := Aside0.mk ((HF.out.then_below HK8d.out).trans' hf9); clear hd9 hf9))
            all_goals
              refine ⟨⟨i + 1, by omega, by go_num, ⟨?_⟩, HF9⟩, by simp [intOf]; omega⟩
              rw [HTK.out]
              exact HD9.out
          | wr a z => exact hst.elim
          | fl a z => exact hst.elim
      · have HLC := Aside0.mk (show ∀ (W : World) (q : Nat) (u : Value) (s f : Nat), HasD W q u s f ((d.steps ((stepsD d m).take i)).crash ks) → Calls Try.prog 51 #[.pointer (some ⟨q, 0, none⟩)] W (fun e w' => ∃ A c, e = .returned (.tuple #[.slice A 120 c, .int .i64 3, .int .i64 0]) ∧ 120 ≤ c ∧ (convert 23 9 (.slice A m.length c)).run Try.prog w' = .ok (.string (strOfNums m)) w' ∧ (convert 23 9 (.slice A m.length c)).run Try.prog w'.drew = .ok (.string (strOfNums m)) w'.drew ∧ Below W.heap.size W w') from fun W q u s f hh => by
          refine (load_more W q u s f _ hh (by rw [hg]; decide)).mono ?_
          rintro e w' ⟨A, c, rfl, hr, hc, _, hb⟩
          rw [hl8, hn8] at hr hc ⊢
          rw [hg]
          have hr' : ReadsInt w' .u8 A (m ++ rest8).length (m ++ rest8) := by rw [hn8]; exact hr
          have := conv_take (c := c) m.length (by rw [hn8]; exact h2) hr'
          have hd := conv_take (c := c) m.length (by rw [hn8]; exact h2) (hr'.below (Below.refl w'.heap.size w').drew)
          rw [List.take_left' rfl] at this hd
          exact ⟨A, c, rfl, hc, this, hd, hb⟩)
        have z3 : decide ((i : Int) ≤ (xs.length : Int) - 3) = false := decide_eq_false (by have := HXL.out; omega)
        clear hi1 hg hl8 hn8
        go_wp2_with (first | (go_at_call 29; ((with_reducible refine (HCP.out _ HD.out).mono ?_); rintro e w6 ⟨q, u6, s6, f6, rfl, hd6, hq6, ho6, hb6⟩; have HC6 := Aside0.mk hd6; have HO6 := Aside0.mk ho6; have HK6 := Aside0.mk hb6; clear hd6 hq6 ho6 hb6)) | (go_at_call 30; go_must ((with_reducible refine (crash_calls _ q u6 s6 f6 _ K kc ks HC6.out (HRK.out.below (bel_step HB.out HK6.out)) (reads_off HRK.out (own_fromq HO6.out HB.out.size))).mono ?_); rintro e w7 ⟨rfl, hd7, hf7⟩; have HC7 := Aside0.mk hd7; have HK7 := Aside0.mk (HK6.out.trans (hf7.below _ HK6.out.size (fun b hb => HO6.out b hb))); clear hd7 hf7)) | (go_at_call 51; ((with_reducible refine (HLC.out _ q u6 s6 f6 HC7.out).mono ?_); rintro e w8 ⟨A8, c8, rfl, hc8, hcv, hcvd, hb8⟩; have HCV := Aside0.mk hcvd; clear hcvd; have htk := take_run A8 c8 120 m.length h2 hc8 (by decide); have HK8 := Aside0.mk (bel_step HK7.out hb8); have hcw := conv_n (c := e) (HRB.out.below (bel_step HB.out HK8.out)); have HD8 := Aside0.mk (HD.out.move HK8.out); clear hb8 hc8)))
        have HK8d := Aside0.mk HK8.out.drew
        have HD8d := Aside0.mk (HD.out.move HK8d.out)
        have HQ8 := Aside0.mk (show (convert 23 9 (.slice A8 m.length c8)).run Try.prog w8.drew = .ok (.string (strOfNums m)) w8.drew ∧ (convert 23 9 (.slice B m.length e)).run Try.prog w8.drew = .ok (.string (strOfNums m)) w8.drew from ⟨HCV.out, conv_n (HRB.out.below (bel_step HB.out HK8d.out))⟩)
        refine start_ (n := 22) (S := fun w' => (convert 23 9 (.slice A8 m.length c8)).run Try.prog w' = .ok (.string (strOfNums m)) w' ∧ (convert 23 9 (.slice B m.length e)).run Try.prog w' = .ok (.string (strOfNums m)) w') (ds := []) #[false, false, false, false, false, false, false, false, false, false, false, false, false, false, false, false, false, false, false, false, false, false] (by kernel_rfl) rfl rfl ⟨HQ8.out.1, HQ8.out.2⟩ (fun hHeld => ?_)
        refine pure_ (i := 0) (N := some 138) (v := ?_) (a' := ?_) #[true, false, false, false, false, false, false, false, false, false, false, false, false, false, false, false, false, false, false, false, false, false] rfl rfl (by kernel_rfl) (fun _ _ _ h => h) (Or.inl ⟨by rfl, ?_⟩) ?_ ?_
        rotate_left
        · intro w'
          go_simp
          with_reducible rfl
        rotate_left
        · simp only [Act.put, List.setIfInBounds_toArray, List.set_cons_zero, List.set_cons_succ, i64_w, i32_w]
          rfl
        refine pure_ (i := 1) (N := some 139) (v := ?_) (a' := ?_) #[true, true, false, false, false, false, false, false, false, false, false, false, false, false, false, false, false, false, false, false, false, false] rfl rfl (by kernel_rfl) (fun _ _ _ h => h) (Or.inl ⟨by rfl, ?_⟩) ?_ ?_
        rotate_left
        · intro w'
          go_simp
          with_reducible rfl
        rotate_left
        · simp only [Act.put, List.setIfInBounds_toArray, List.set_cons_zero, List.set_cons_succ, i64_w, i32_w]
          rfl
        refine pure_ (i := 2) (N := some 140) (v := ?_) (a' := ?_) #[true, true, true, false, false, false, false, false, false, false, false, false, false, false, false, false, false, false, false, false, false, false] rfl rfl (by kernel_rfl) (fun _ _ _ h => h) (Or.inl ⟨by rfl, ?_⟩) ?_ ?_
        rotate_left
        · intro w'
          go_simp
          with_reducible rfl
        rotate_left
        · simp only [Act.put, List.setIfInBounds_toArray, List.set_cons_zero, List.set_cons_succ, i64_w, i32_w]
          rfl
        refine pure_ (i := 3) (N := some 141) (v := ?_) (a' := ?_) #[true, true, true, true, false, false, false, false, false, false, false, false, false, false, false, false, false, false, false, false, false, false] rfl rfl (by kernel_rfl) (fun _ _ _ h => h) (Or.inl ⟨by rfl, ?_⟩) ?_ ?_
        rotate_left
        · intro w'
          go_simp
          with_reducible rfl
        rotate_left
        · simp only [Act.put, List.setIfInBounds_toArray, List.set_cons_zero, List.set_cons_succ, i64_w, i32_w]
          rfl
        refine pure_ (i := 4) (N := some 142) (v := ?_) (a' := ?_) #[true, true, true, true, true, false, false, false, false, false, false, false, false, false, false, false, false, false, false, false, false, false] rfl rfl (by kernel_rfl) (fun _ _ _ h => h) (Or.inl ⟨by rfl, ?_⟩) ?_ ?_
        rotate_left
        · intro w'
          go_simp
          with_reducible rfl
        rotate_left
        · simp only [Act.put, List.setIfInBounds_toArray, List.set_cons_zero, List.set_cons_succ, i64_w, i32_w]
          rfl
        refine pure_ (i := 5) (N := some 143) (v := ?_) (a' := ?_) #[true, true, true, true, true, true, false, false, false, false, false, false, false, false, false, false, false, false, false, false, false, false] rfl rfl (by kernel_rfl) (fun _ _ _ h => h) (Or.inl ⟨by rfl, ?_⟩) ?_ ?_
        rotate_left
        · intro w'
          go_simp
          with_reducible rfl
        rotate_left
        · simp only [Act.put, List.setIfInBounds_toArray, List.set_cons_zero, List.set_cons_succ, i64_w, i32_w]
          rfl
        refine pure_ (i := 6) (N := some 144) (v := ?_) (a' := ?_) #[true, true, true, true, true, true, true, false, false, false, false, false, false, false, false, false, false, false, false, false, false, false] rfl rfl (by kernel_rfl) (fun _ _ _ h => h) (Or.inl ⟨by rfl, ?_⟩) ?_ ?_
        rotate_left
        · intro w'
          go_simp
          with_reducible rfl
        rotate_left
        · simp only [Act.put, List.setIfInBounds_toArray, List.set_cons_zero, List.set_cons_succ, i64_w, i32_w]
          rfl
        refine pure_ (i := 7) (N := some 145) (v := ?_) (a' := ?_) #[true, true, true, true, true, true, true, true, false, false, false, false, false, false, false, false, false, false, false, false, false, false] rfl rfl (by kernel_rfl) (fun _ _ _ h => h) (Or.inl ⟨by rfl, ?_⟩) ?_ ?_
        rotate_left
        · intro w'
          go_simp
          with_reducible rfl
        rotate_left
        · simp only [Act.put, List.setIfInBounds_toArray, List.set_cons_zero, List.set_cons_succ, i64_w, i32_w]
          rfl
        refine pure_ (i := 8) (N := some 146) (v := ?_) (a' := ?_) #[true, true, true, true, true, true, true, true, true, false, false, false, false, false, false, false, false, false, false, false, false, false] rfl rfl (by kernel_rfl) (fun _ _ _ h => h) (Or.inl ⟨by rfl, ?_⟩) ?_ ?_
        rotate_left
        · intro w'
          go_simp
          with_reducible rfl
        rotate_left
        · simp only [Act.put, List.setIfInBounds_toArray, List.set_cons_zero, List.set_cons_succ, i64_w, i32_w]
          rfl
        refine pure_ (i := 9) (N := some 147) (v := ?_) (a' := ?_) #[true, true, true, true, true, true, true, true, true, true, false, false, false, false, false, false, false, false, false, false, false, false] rfl rfl (by kernel_rfl) (fun _ _ _ h => h) (Or.inl ⟨by rfl, ?_⟩) ?_ ?_
        rotate_left
        · intro w'
          go_simp
          with_reducible rfl
        rotate_left
        · simp only [Act.put, List.setIfInBounds_toArray, List.set_cons_zero, List.set_cons_succ, i64_w, i32_w]
          rfl
        refine pure_ (i := 10) (N := some 148) (v := ?_) (a' := ?_) #[true, true, true, true, true, true, true, true, true, true, true, false, false, false, false, false, false, false, false, false, false, false] rfl rfl (by kernel_rfl) (fun _ _ _ h => h) (Or.inl ⟨by rfl, ?_⟩) ?_ ?_
        rotate_left
        · intro w'
          go_simp
          with_reducible rfl
        rotate_left
        · simp only [Act.put, List.setIfInBounds_toArray, List.set_cons_zero, List.set_cons_succ, i64_w, i32_w]
          rfl
        refine pure_ (i := 11) (N := some 149) (v := ?_) (a' := ?_) #[true, true, true, true, true, true, true, true, true, true, true, true, false, false, false, false, false, false, false, false, false, false] rfl rfl (by kernel_rfl) (fun _ _ _ h => h) (Or.inl ⟨by rfl, ?_⟩) ?_ ?_
        rotate_left
        · intro w'
          go_simp
          with_reducible rfl
        rotate_left
        · simp only [Act.put, List.setIfInBounds_toArray, List.set_cons_zero, List.set_cons_succ, i64_w, i32_w]
          rfl
        refine pure_ (i := 12) (N := some 150) (v := ?_) (a' := ?_) #[true, true, true, true, true, true, true, true, true, true, true, true, true, false, false, false, false, false, false, false, false, false] rfl rfl (by kernel_rfl) (fun _ _ _ h => h) (Or.inl ⟨by rfl, ?_⟩) ?_ ?_
        rotate_left
        · intro w'
          go_simp
          with_reducible rfl
        rotate_left
        · simp only [Act.put, List.setIfInBounds_toArray, List.set_cons_zero, List.set_cons_succ, i64_w, i32_w]
          rfl
        refine pure_ (i := 13) (N := some 151) (v := ?_) (a' := ?_) #[true, true, true, true, true, true, true, true, true, true, true, true, true, true, false, false, false, false, false, false, false, false] rfl rfl (by kernel_rfl) (fun _ _ _ h => h) (Or.inl ⟨by rfl, ?_⟩) ?_ ?_
        rotate_left
        · intro w'
          go_simp
          with_reducible rfl
        rotate_left
        · simp only [Act.put, List.setIfInBounds_toArray, List.set_cons_zero, List.set_cons_succ, i64_w, i32_w]
          rfl
        refine pure_ (i := 14) (N := some 152) (v := ?_) (a' := ?_) #[true, true, true, true, true, true, true, true, true, true, true, true, true, true, true, false, false, false, false, false, false, false] rfl rfl (by kernel_rfl) (fun _ _ _ h => h) (Or.inl ⟨by rfl, ?_⟩) ?_ ?_
        rotate_left
        · intro w'
          go_simp
          with_reducible rfl
        rotate_left
        · simp only [Act.put, List.setIfInBounds_toArray, List.set_cons_zero, List.set_cons_succ, i64_w, i32_w]
          rfl
        refine pure_ (i := 15) (N := some 153) (v := ?_) (a' := ?_) #[true, true, true, true, true, true, true, true, true, true, true, true, true, true, true, true, false, false, false, false, false, false] rfl rfl (by kernel_rfl) (fun _ _ _ h => h) (Or.inl ⟨by rfl, ?_⟩) ?_ ?_
        rotate_left
        · intro w'
          go_simp
          with_reducible rfl
        rotate_left
        · simp only [Act.put, List.setIfInBounds_toArray, List.set_cons_zero, List.set_cons_succ, i64_w, i32_w]
          rfl
        refine pure_ (i := 17) (N := some 155) (v := ?_) (a' := ?_) #[true, true, true, true, true, true, true, true, true, true, true, true, true, true, true, true, false, true, false, false, false, false] rfl rfl (by kernel_rfl) (fun _ _ _ h => h) (Or.inl ⟨by rfl, ?_⟩) ?_ ?_
        rotate_left
        · intro w'
          go_simp
          with_reducible rfl
        rotate_left
        · simp only [Act.put, List.setIfInBounds_toArray, List.set_cons_zero, List.set_cons_succ, i64_w, i32_w]
          rfl
        refine take_ (i := 16) (N := some 154) (v := ?_) (a' := ?_) #[true, true, true, true, true, true, true, true, true, true, true, true, true, true, true, true, true, true, false, false, false, false] rfl rfl (by kernel_rfl) (fun _ _ _ h => h) (Or.inl ⟨by rfl, ?_⟩) hHeld ?_ ?_
        rotate_left
        · rintro w' ⟨s0, s1⟩
          go_simp
          with_reducible rfl
        rotate_left
        · simp only [Act.put, List.setIfInBounds_toArray, List.set_cons_zero, List.set_cons_succ, i64_w, i32_w]
          rfl
        refine take_ (i := 18) (N := some 156) (v := ?_) (a' := ?_) #[true, true, true, true, true, true, true, true, true, true, true, true, true, true, true, true, true, true, true, false, false, false] rfl rfl (by kernel_rfl) (fun _ _ _ h => h) (Or.inl ⟨by rfl, ?_⟩) hHeld ?_ ?_
        rotate_left
        · rintro w' ⟨s0, s1⟩
          go_simp
          with_reducible rfl
        rotate_left
        · simp only [Act.put, List.setIfInBounds_toArray, List.set_cons_zero, List.set_cons_succ, i64_w, i32_w]
          rfl
        refine pure_ (i := 19) (N := some 157) (v := ?_) (a' := ?_) #[true, true, true, true, true, true, true, true, true, true, true, true, true, true, true, true, true, true, true, true, false, false] rfl rfl (by kernel_rfl) (fun _ _ _ h => h) (Or.inl ⟨by rfl, ?_⟩) ?_ ?_
        rotate_left
        · intro w'
          go_simp
          with_reducible rfl
        rotate_left
        · simp only [Act.put, List.setIfInBounds_toArray, List.set_cons_zero, List.set_cons_succ, i64_w, i32_w]
          rfl
        refine pure_ (i := 20) (N := some 158) (v := ?_) (a' := ?_) #[true, true, true, true, true, true, true, true, true, true, true, true, true, true, true, true, true, true, true, true, true, false] rfl rfl (by kernel_rfl) (fun _ _ _ h => h) (Or.inl ⟨by rfl, ?_⟩) ?_ ?_
        rotate_left
        · intro w'
          go_simp
          with_reducible rfl
        rotate_left
        · simp only [Act.put, List.setIfInBounds_toArray, List.set_cons_zero, List.set_cons_succ, i64_w, i32_w]
          rfl
        refine pure_ (i := 21) (N := some 20) (v := ?_) (a' := ?_) #[true, true, true, true, true, true, true, true, true, true, true, true, true, true, true, true, true, true, true, true, true, true] rfl rfl (by kernel_rfl) (fun _ _ _ h => h) (Or.inl ⟨by rfl, ?_⟩) ?_ ?_
        rotate_left
        · intro w'
          go_simp
          with_reducible rfl
        rotate_left
        · simp only [Act.put, List.setIfInBounds_toArray, List.set_cons_zero, List.set_cons_succ, i64_w, i32_w]
          rfl
        refine done_ (by kernel_rfl) ?_

        by_cases hiL : i < xs.length
        · have z1 : decide ((i : Int) < xs.length) = true := decide_eq_true (by omega)
          have z2 : ((i : Int) == xs.length) = false := by rw [beq_eq_false_iff_ne]; omega
          obtain ⟨x, hx⟩ : ∃ x, xs[i]? = some x := ⟨_, List.getElem?_eq_getElem hiL⟩
          obtain ⟨y, hy, hst1⟩ := HAL.out.get hx
          have hst := hst1.move HF.out HTO.out
          have HXC := Aside0.mk (HF.out.cell (HCE.out i x hx) (HTO.out _ HG.out))
          have HTK := Aside0.mk (take_steps (d := d) hy)
          have hok := HOKM.out y (List.mem_of_getElem? hy)
          clear hst1 hy hx
          cases x with
          | wr bd ba bx =>
            cases y with
            | wr a z =>
              have HDO := Aside0.mk (fun (W : World) (hb : Below wr.heap.size wr W) (hh : HasD W p v s f (d.steps ((stepsD d m).take i))) => step_wr W p v s f _ _ bd ba bx a z hh (hst.move (S := fun _ => False) (Fr.of_below hb _) (fun _ _ h => h)) hok)
              clear hst hok
              simp only [encS] at HXC
              have hcx := bel_cell HK8d.out HXC.out
              go_wp2_with (go_at_call 96; ((with_reducible refine (HDO.out _ HK8d.out HD8d.out).mono ?_); rintro e w9 ⟨rfl, hd9, hf9⟩; have HD9 := Aside0.mk hd9; have HF9 := Aside0.mk ((HF.out.then_below HK8d.out).trans' hf9); clear hd9 hf9))
              all_goals
                refine ⟨⟨i + 1, by omega, by go_num, ⟨?_⟩, HF9⟩, by simp [intOf]; omega⟩
                rw [HTK.out]
                exact HD9.out
            | fl a z => exact hst.elim
            | fe => exact hst.elim
          | fl bd ba bx =>
            cases y with
            | fl a z =>
              have HDO := Aside0.mk (fun (W : World) (hb : Below wr.heap.size wr W) (hh : HasD W p v s f (d.steps ((stepsD d m).take i))) => step_fl W p v s f _ _ bd ba bx a z hh (hst.move (S := fun _ => False) (Fr.of_below hb _) (fun _ _ h => h)))
              clear hst hok
              simp only [encS] at HXC
              have hcx := bel_cell HK8d.out HXC.out
              go_wp2_with (go_at_call 98; ((with_reducible refine (HDO.out _ HK8d.out HD8d.out).mono ?_); rintro e w9 ⟨rfl, hd9, hf9⟩; have HD9 := Aside0.mk hd9; have HF9 := Aside0.mk ((HF.out.then_below HK8d.out).trans' hf9); clear hd9 hf9))
              all_goals
                refine ⟨⟨i + 1, by omega, by go_num, ⟨?_⟩, HF9⟩, by simp [intOf]; omega⟩
                rw [HTK.out]
                exact HD9.out
            | wr a z => exact hst.elim
            | fe => exact hst.elim
          | fe q9 =>
            cases y with
            | fe =>
              obtain rfl : q9 = p := hst
              have HDO := Aside0.mk (fun (W : World) (hb : Below wr.heap.size wr W) (hh : HasD W q9 v s f _) => step_fe W q9 v s f (d.steps ((stepsD d m).take i)) hh)
              clear hok
              simp only [encS] at HXC
              have hcx := bel_cell HK8d.out HXC.out
              go_wp2_with (go_at_call 24; ((with_reducible refine (HDO.out _ HK8d.out HD8d.out).mono ?_); rintro e w9 ⟨rfl, hd9, hf9⟩; have HD9 := Aside0.mk hd9; have HF9 := Aside0.mk ((HF.out.then_below HK8d.out).trans' hf9); clear hd9 hf9))
              all_goals
                refine ⟨⟨i + 1, by omega, by go_num, ⟨?_⟩, HF9⟩, by simp [intOf]; omega⟩
                rw [HTK.out]
                exact HD9.out
            | wr a z => exact hst.elim
            | fl a z => exact hst.elim

        · have z1 : decide ((i : Int) < xs.length) = false := decide_eq_false (by omega)
          have HTX := Aside0.mk (show (stepsD d m).take (i + 1) = (stepsD d m).take i by rw [List.take_of_length_le (by have := HXL.out; omega), List.take_of_length_le (by have := HXL.out; omega)])
          have z2 : ((i : Int) == xs.length) = true := by rw [beq_iff_eq]; omega
          go_wp2
          all_goals
            refine ⟨⟨i + 1, by omega, by go_num, ⟨?_⟩, ⟨HF.out.then_below HK8d.out⟩⟩, by simp [intOf]; omega⟩
            rw [HTX.out]
            exact HD8d.out
    · have z0 : decide ((i : Int) < (xs.length : Int) + 1) = false := decide_eq_false (by omega)
      have HB := Aside0.mk (HB5.out.trans (HF.out.below _ HB5.out.size (fun b hb => HV.out b hb)))
      go_wp2_with (go_at_call 48; go_must ((with_reducible refine (dk_alive _).mono ?_); rintro e w9 ⟨rfl, hb⟩; have HB9 := Aside0.mk (bel_step HB.out hb); clear hb))
      go_ret
      exact ⟨rfl, HB9.out⟩
theorem diskCrashes_walk (A : Option Addr) (c : Nat) (l : List Int) (B : Option Addr) (e : Nat) (m : List Int) (K : Option Addr) (kc : Nat) (ks : List Int) (w : World) (hr : ReadsInt w .u8 A l.length l) (hb : Bys l) (_y : l.length ≤ 140737488351232) (hs : ReadsInt w .u8 B m.length m) (hbm : Bys m) (_z : m.length ≤ 140737488351232) (hk : ReadsInt w .i64 K ks.length ks) : Calls Try.prog 18 #[.slice A l.length c, .slice B m.length e, .slice K ks.length kc] w fun e w' => e = .returned (.bool true) ∧ Below w.heap.size w w' := by
  by_cases h : 120 < l.length ∨ 120 < m.length ∨ 100 < ks.length
  · exact dcrash_long A c l B e m K kc ks w hr hb hs hbm hk h
  · exact dcrash_good A c l B e m K kc ks w hr hb hs hbm hk (by omega) (by omega) (by omega)
end Go.Proofs.Ytbfogcckbhkciaa.Hand
