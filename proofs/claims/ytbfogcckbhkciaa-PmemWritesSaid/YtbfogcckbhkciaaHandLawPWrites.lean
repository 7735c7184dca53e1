/- PmemWrites: the walk. -/
import Derived.Test.YtbfogcckbhkciaaHandPmLaw
import Derived.Test.YtbfogcckbhkciaaWLast
namespace Go.Proofs.Ytbfogcckbhkciaa.Hand
open Go.RowKit Go.Maps Go.Proofs.YtbfogcckbhkciaaW.PrintWords Go.Proofs.YtbfogcckbhkciaaW.PrintLast
set_option linter.unusedVariables false
set_option linter.unusedSimpArgs false
theorem str_to (l : List Int) (a : Nat) (h : a ≤ l.length) (W : World) : (Instr.slice 9 (.string (strOfNums l)) none (some (.int .i64 (a : Int))) none).run Try.prog W = .ok (.string (strOfNums (l.take a))) W := by
  rw [run_slice_string_h W 9 (strOfNums l) Try.underlying9 .i64 (a : Int) (by omega) (by rw [strOfNums_size]; omega), str_extract]
  simp
theorem str_from (l : List Int) (a : Nat) (i : Int) (hi : i = a) (h : a ≤ l.length) (W : World) : (Instr.slice 9 (.string (strOfNums l)) (some (.int .i64 i)) none none).run Try.prog W = .ok (.string (strOfNums (l.drop a))) W := by
  subst hi
  rw [run_slice_string_l W 9 (strOfNums l) Try.underlying9 .i64 (a : Int) (by omega) (by rw [strOfNums_size]; omega), str_extract]
  simp [strOfNums_size]
theorem str_mid (l : List Int) (a n : Nat) (i : Int) (hi : i = a + n) (h : a + n ≤ l.length) (W : World) : (Instr.slice 9 (.string (strOfNums l)) (some (.int .i64 (a : Int))) (some (.int .i64 i)) none).run Try.prog W = .ok (.string (strOfNums (cut l a n))) W := by
  subst hi
  rw [run_slice_string W 9 (strOfNums l) .i64 .i64 (a : Int) ((a : Int) + n) Try.underlying9 (by omega) (by omega) (by rw [strOfNums_size]; omega), str_extract, show ((a : Int) + n).toNat = a + n by omega, Int.toNat_natCast, cut, List.take_drop]
set_option maxRecDepth 100000 in
set_option maxHeartbeats 2000000 in
theorem pmemWrites_long (A : Option Addr) (c : Nat) (os : List OpP) (x : OpP) (w : World) (ho : PoK.C w A os.length os) (hw : ∀ o ∈ os, WfPo w o) (hx : WfPo w x) (h200 : 200 < x.bs.length) :
    Calls Try.prog 3 #[.slice A os.length c, .agg #[.int .i64 x.z, .int .i64 x.at_, .int .i64 x.long, .slice x.A1 x.bs.length x.c1, .slice x.A2 x.ks.length x.c2]] w fun e w' => e = .returned (.bool true) ∧ Below w.heap.size w w' := by
  have HM := Aside0.mk (show Calls Try.prog 20 #[.int .i64 10, .slice A os.length c] (w.alloc (.cells #[.int .i64 x.z, .int .i64 x.at_, .int .i64 x.long, .slice x.A1 x.bs.length x.c1, .slice x.A2 x.ks.length x.c2] 26)) (MadeE (boxed w x) (runD dev10 os)) from made_e (boxed w x) A c os (Kd.C_below ho (boxed_below w x)) (wfs_below hw (boxed_below w x))); obtain ⟨hok, hln⟩ := runD_ok hw; generalize runD dev10 os = d at HM hok hln; have HL := Aside0.mk hln; have HX := Aside0.mk hx; have hbl : x.bs.length ≤ 9223372036854775807 := hx.rb.2.1; have HQ := Aside0.mk (boxed_at w x)
  clear ho hw hok hln hx
  go_enter Try.func3, Try.ntmps3
  go_wp2_with (first | (go_at_call 20; ((with_reducible refine HM.out.mono ?_); intro e w1 hM; rcases hM with ⟨rfl, hb⟩ | ⟨p, v, s, f, rfl, hd1, hp1, hv1, hb1⟩; (have HN1 := Aside0.mk hb; obtain ⟨b1, b3⟩ := (HQ.out.below HN1.out).at_; clear hb); rotate_left; (have HD1 := Aside0.mk hd1; have HB1 := Aside0.mk hb1; have HV := Aside0.mk hv1; obtain ⟨b1, b3⟩ := (HQ.out.below HB1.out).at_; clear hd1 hp1 hv1 hb1); rotate_left)) | (go_at_call 21; ((with_reducible refine (pm_alive _).mono ?_); rintro e wA ⟨rfl, hb⟩; have HBA := Aside0.mk (bel_step HN1.out hb); clear hb)) | (go_at_call 21; ((with_reducible refine (pm_alive _).mono ?_); rintro e wA ⟨rfl, hb⟩; have HBA := Aside0.mk (bel_step HB1.out hb); clear hb)))
  all_goals
    go_ret
    exact ⟨rfl, boxed_end HBA.out⟩
set_option maxRecDepth 100000 in
set_option maxHeartbeats 2000000 in
theorem pmemWrites_bad (A : Option Addr) (c : Nat) (os : List OpP) (x : OpP) (w : World) (ho : PoK.C w A os.length os) (hw : ∀ o ∈ os, WfPo w o) (hx : WfPo w x) (h200 : ¬ 200 < x.bs.length) (he : insE 80 x.at_ x.bs.length ≠ 0) :
    Calls Try.prog 3 #[.slice A os.length c, .agg #[.int .i64 x.z, .int .i64 x.at_, .int .i64 x.long, .slice x.A1 x.bs.length x.c1, .slice x.A2 x.ks.length x.c2]] w fun e w' => e = .returned (.bool true) ∧ Below w.heap.size w w' := by
  have HM := Aside0.mk (show Calls Try.prog 20 #[.int .i64 10, .slice A os.length c] (w.alloc (.cells #[.int .i64 x.z, .int .i64 x.at_, .int .i64 x.long, .slice x.A1 x.bs.length x.c1, .slice x.A2 x.ks.length x.c2] 26)) (MadeE (boxed w x) (runD dev10 os)) from made_e (boxed w x) A c os (Kd.C_below ho (boxed_below w x)) (wfs_below hw (boxed_below w x))); obtain ⟨hok, hln⟩ := runD_ok hw; generalize runD dev10 os = d at HM hok hln; have HL := Aside0.mk hln; have HX := Aside0.mk hx; have hbl : x.bs.length ≤ 9223372036854775807 := hx.rb.2.1; have HQ := Aside0.mk (boxed_at w x)
  obtain ⟨er, her⟩ : ∃ er, er = insE d.B.length x.at_ x.bs.length := ⟨_, rfl⟩
  have HE := Aside0.mk her.symm
  have hne : (er != 0) = true := by rw [her, hln]; simpa using he
  have HEN := Aside0.mk (show insE d.B.length x.at_ x.bs.length ≠ 0 by rw [hln]; exact he)
  clear ho hw hok hln hx he her
  go_enter Try.func3, Try.ntmps3
  go_wp2_with (first | (go_at_call 20; ((with_reducible refine HM.out.mono ?_); intro e w1 hM; rcases hM with ⟨rfl, hb⟩ | ⟨p, v, s, f, rfl, hd1, hp1, hv1, hb1⟩; (have HN1 := Aside0.mk hb; obtain ⟨b1, b3⟩ := (HQ.out.below HN1.out).at_; clear hb); rotate_left; (have HD1 := Aside0.mk hd1; have HB1 := Aside0.mk hb1; have HV := Aside0.mk hv1; obtain ⟨b1, b3⟩ := (HQ.out.below HB1.out).at_; clear hd1 hp1 hv1 hb1); rotate_left)) | (go_at_call 21; ((with_reducible refine (pm_alive _).mono ?_); rintro e wA ⟨rfl, hb⟩; have HBA := Aside0.mk (bel_step HN1.out hb); clear hb)) | (go_at_call 22; (first | ((with_reducible refine (bytes_calls _ p v s f _ HD3.out).mono ?_); rintro e w4 ⟨u4, rfl, hu, hb⟩; have HB4 := Aside0.mk (bel_step HB3.out hb); have hcv := conv_own hu; clear hu hb) | ((with_reducible refine (bytes_calls _ p v s f _ HD1.out).mono ?_); rintro e w2 ⟨u2, rfl, hu, hb⟩; have HCU := Aside0.mk (conv_own hu); have HD2 := Aside0.mk (HD1.out.move hb); have HB2 := Aside0.mk (bel_step HB1.out hb); have hcv := HCU.out; obtain ⟨b1, b3⟩ := (HQ.out.below HB2.out).at_; clear hu hb))) | (go_at_call 23; ((with_reducible refine (write_bad _ p v s f _ x.at_ x.A1 x.bs.length x.c1 HD2.out hbl HEN.out).mono ?_); rw [HE.out]; rintro e w3 ⟨rfl, hb⟩; have HD3 := Aside0.mk (HD2.out.move hb); have HB3 := Aside0.mk (bel_step HB2.out hb); clear hb)) | (go_at_call 21; ((with_reducible refine (pm_alive _).mono ?_); rintro e wA ⟨rfl, hb⟩; have HBA := Aside0.mk (bel_step HB4.out hb); clear hb)))
  all_goals
    go_ret
    exact ⟨rfl, boxed_end HBA.out⟩
set_option maxRecDepth 100000 in
set_option maxHeartbeats 2000000 in
theorem pmemWrites_good (A : Option Addr) (c : Nat) (os : List OpP) (x : OpP) (w : World) (ho : PoK.C w A os.length os) (hw : ∀ o ∈ os, WfPo w o) (hx : WfPo w x) (h200 : ¬ 200 < x.bs.length) (he : insE 80 x.at_ x.bs.length = 0) :
    Calls Try.prog 3 #[.slice A os.length c, .agg #[.int .i64 x.z, .int .i64 x.at_, .int .i64 x.long, .slice x.A1 x.bs.length x.c1, .slice x.A2 x.ks.length x.c2]] w fun e w' => e = .returned (.bool true) ∧ Below w.heap.size w w' := by
  have HM := Aside0.mk (show Calls Try.prog 20 #[.int .i64 10, .slice A os.length c] (w.alloc (.cells #[.int .i64 x.z, .int .i64 x.at_, .int .i64 x.long, .slice x.A1 x.bs.length x.c1, .slice x.A2 x.ks.length x.c2] 26)) (MadeE (boxed w x) (runD dev10 os)) from made_e (boxed w x) A c os (Kd.C_below ho (boxed_below w x)) (wfs_below hw (boxed_below w x))); obtain ⟨hok, hln⟩ := runD_ok hw; generalize runD dev10 os = d at HM hok hln; have HL := Aside0.mk hln; have HX := Aside0.mk hx; have hbl : x.bs.length ≤ 9223372036854775807 := hx.rb.2.1; have HQ := Aside0.mk (boxed_at w x)
  obtain ⟨z, a, long, A1, c1, bs, A2, c2, ks⟩ := x
  obtain ⟨_, h2, h3⟩ := ins_ok he
  simp only at h2 h3 he hbl h200
  obtain ⟨a, rfl⟩ := Int.eq_ofNat_of_zero_le h2
  have HE := Aside0.mk (show insE d.B.length (a : Int) bs.length = 0 by rw [hln]; exact he)
  have hlw : (d.write a bs).B.length = 80 := by rw [Dev.write]; exact (splice_length (by omega)).trans hln
  have g1 : (d.write a bs).B.take a = d.B.take a := by simp only [Dev.write]; rw [List.take_append_of_le_length (by rw [List.length_take]; omega), List.take_take, Nat.min_self]
  have g2 : cut (d.write a bs).B a bs.length = bs := by
    simp only [Dev.write, cut]
    rw [List.drop_append_of_le_length (by simp; omega), List.drop_eq_nil_of_le (by simp; omega), List.nil_append, List.take_append_of_le_length (by omega)]
    simp
  have g3 : (d.write a bs).B.drop (a + bs.length) = d.B.drop (a + bs.length) := by
    simp only [Dev.write]
    rw [List.drop_append, List.drop_eq_nil_of_le (by simp; omega), List.nil_append, List.length_take, Nat.min_eq_left (by omega), List.drop_append, List.drop_eq_nil_of_le (by omega), List.nil_append, show a + bs.length - a - bs.length = 0 by omega, List.drop_zero]
  have e1 := str_to (d.write a bs).B a (by omega)
  have e2 := str_to d.B a (by omega)
  have e3 := str_mid (d.write a bs).B a bs.length _ rfl (by omega)
  have e4 := str_from (d.write a bs).B (a + bs.length) ((a : Int) + bs.length) (by omega) (by omega)
  have e5 := str_from d.B (a + bs.length) ((a : Int) + bs.length) (by omega) (by omega)
  rw [g1] at e1
  rw [g2] at e3
  rw [g3] at e4
  have hsz1 : (strOfNums (d.write a bs).B).size = 80 := by rw [strOfNums_size]; exact hlw
  have hsz2 : (strOfNums d.B).size = 80 := by rw [strOfNums_size]; exact hln
  obtain ⟨T1, hT1⟩ : ∃ T1, T1 = strOfNums (d.B.take a) := ⟨_, rfl⟩
  obtain ⟨T2, hT2⟩ : ∃ T1, T1 = strOfNums bs := ⟨_, rfl⟩
  obtain ⟨T3, hT3⟩ : ∃ T1, T1 = strOfNums (d.B.drop (a + bs.length)) := ⟨_, rfl⟩
  obtain ⟨N1, hN1⟩ : ∃ T1, T1 = strOfNums (d.write a bs).B := ⟨_, rfl⟩
  obtain ⟨N2, hN2⟩ : ∃ T1, T1 = strOfNums d.B := ⟨_, rfl⟩
  rw [← hN1, ← hT1] at e1
  rw [← hN2, ← hT1] at e2
  rw [← hN1, ← hT2] at e3
  rw [← hN1, ← hT3] at e4
  rw [← hN2, ← hT3] at e5
  rw [← hN1] at hsz1
  rw [← hN2] at hsz2
  have HT2 := Aside0.mk hT2
  have HN1 := Aside0.mk hN1
  have HN2 := Aside0.mk hN2
  have k0 : ((N1.size : Int) != 80) = false := by rw [hsz1]; rfl
  have k1 : ((N2.size : Int) != 80) = false := by rw [hsz2]; rfl
  have k2 : decide (200 < (bs.length : Int)) = false := by simp; omega
  have k3 : IntKind.i64.wrap (80 - (bs.length : Int)) = 80 - (bs.length : Int) := IntWalk.i64_in _ (by omega)
  have k4 : decide (80 - (bs.length : Int) < (a : Int)) = false := by simp; omega
  have k5 : IntKind.i64.wrap ((a : Int) + (bs.length : Int)) = (a : Int) + (bs.length : Int) := IntWalk.i64_in _ (by omega)
  have k6 : decide ((a : Int) < 0) = false := by simp
  clear ho hw hok hln hx he g1 g2 g3 hlw hT1 hT2 hT3 hN1 hN2 hsz1 hsz2
  go_enter Try.func3, Try.ntmps3
  go_wp2_with (first | (go_at_call 20; ((with_reducible refine HM.out.mono ?_); intro e w1 hM; rcases hM with ⟨rfl, hb⟩ | ⟨p, v, s, f, rfl, hd1, hp1, hv1, hb1⟩; (have HN1 := Aside0.mk hb; obtain ⟨b1, b3⟩ := (HQ.out.below HN1.out).at_; clear hb); rotate_left; (have HD1 := Aside0.mk hd1; have HB1 := Aside0.mk hb1; have HV := Aside0.mk hv1; obtain ⟨b1, b3⟩ := (HQ.out.below HB1.out).at_; clear hd1 hp1 hv1 hb1); rotate_left)) | (go_at_call 21; ((with_reducible refine (pm_alive _).mono ?_); rintro e wA ⟨rfl, hb⟩; have HBA := Aside0.mk (bel_step HN1.out hb); clear hb)) | (go_at_call 22; (first | ((with_reducible refine (bytes_calls _ p v s f _ HD3.out).mono ?_); rintro e w4 ⟨u4, rfl, hu, hb⟩; have HB4 := Aside0.mk (bel_step HB3.out hb); have hcv := conv_own hu; rw [← HN1.out] at hcv; obtain ⟨b1, b3⟩ := (HQ.out.below HB4.out).at_; have HR4 := Aside0.mk (HX.out.rb.below (boxed_end HB4.out)); clear hu hb) | ((with_reducible refine (bytes_calls _ p v s f _ HD1.out).mono ?_); rintro e w2 ⟨u2, rfl, hu, hb⟩; have hcv := conv_own hu; rw [← HN2.out] at hcv; have HD2 := Aside0.mk (HD1.out.move hb); have HB2 := Aside0.mk (bel_step HB1.out hb); obtain ⟨b1, b3⟩ := (HQ.out.below HB2.out).at_; clear hu hb))) | (go_at_call 23; ((with_reducible refine (write_good _ p v s f d a A1 bs.length c1 bs rfl HD2.out (HX.out.rb.below (boxed_end HB2.out)) HX.out.by_ HE.out).mono ?_); rintro e w3 ⟨rfl, hd, hf⟩; have HD3 := Aside0.mk hd; have HB3 := Aside0.mk (HB2.out.trans (hf.below _ HB2.out.size (fun b hb => HV.out b hb))); obtain ⟨b1, b3⟩ := (HQ.out.below HB3.out).at_; clear hd hf)))
  · go_ret
    exact ⟨rfl, boxed_end HBA.out⟩
  have HB4d := Aside0.mk (HB4.out.drew)
  have HFX := Aside0.mk (show ∀ W, Below (boxed w ⟨z, a, long, A1, c1, bs, A2, c2, ks⟩).heap.size (boxed w ⟨z, a, long, A1, c1, bs, A2, c2, ks⟩) W → W.cell? ⟨w.heap.size, 1, none⟩ = some (.int .i64 (a : Int)) ∧ W.cell? ⟨w.heap.size, 3, none⟩ = some (.slice A1 bs.length c1) ∧ (convert 23 9 (.slice A1 bs.length c1)).run Try.prog W = .ok (.string T2) W from fun W hW => ⟨(HQ.out.below hW).at_.1, (HQ.out.below hW).at_.2, by rw [HT2.out]; exact conv_reads (HX.out.rb.below (boxed_end hW))⟩)
  go_region_held (fun w' => w'.cell? ⟨w.heap.size, 1, none⟩ = some (.int .i64 (a : Int)) ∧ w'.cell? ⟨w.heap.size, 3, none⟩ = some (.slice A1 bs.length c1) ∧ (convert 23 9 (.slice A1 bs.length c1)).run Try.prog w' = .ok (.string T2) w') (first | exact HFX.out _ HBA.out | exact HFX.out _ HB4d.out) (first | (go_at_call 21; ((with_reducible refine (pm_alive _).mono ?_); rintro e wA ⟨rfl, hb⟩; have HBA := Aside0.mk (bel_step HB4d.out hb); clear hb)))
  go_wp2
  go_ret
  exact ⟨rfl, boxed_end HBA.out⟩
theorem pmemWrites_walk (A : Option Addr) (c : Nat) (os : List OpP) (x : OpP) (w : World) (ho : PoK.C w A os.length os) (hw : ∀ o ∈ os, WfPo w o) (hx : WfPo w x) :
    Calls Try.prog 3 #[.slice A os.length c, .agg (encPo x).toArray] w fun e w' => e = .returned (.bool true) ∧ Below w.heap.size w w' := by
  by_cases h200 : 200 < x.bs.length
  · exact pmemWrites_long A c os x w ho hw hx h200
  · by_cases he : insE 80 x.at_ x.bs.length = 0
    · exact pmemWrites_good A c os x w ho hw hx h200 he
    · exact pmemWrites_bad A c os x w ho hw hx h200 he
end Go.Proofs.Ytbfogcckbhkciaa.Hand
