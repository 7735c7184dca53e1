/- PmemFences: the walk. -/
import Derived.Test.YtbfogcckbhkciaaHandPmLaw
import Derived.Test.YtbfogcckbhkciaaWLast
namespace Go.Proofs.Ytbfogcckbhkciaa.Hand
open Go.RowKit Go.Maps Go.Proofs.YtbfogcckbhkciaaW.PrintWords Go.Proofs.YtbfogcckbhkciaaW.PrintLast
set_option linter.unusedVariables false
set_option linter.unusedSimpArgs false
set_option maxRecDepth 100000 in
set_option maxHeartbeats 2000000 in
theorem pmemFences_walk (A : Option Addr) (c : Nat) (os : List OpP) (w : World) (ho : PoK.C w A os.length os) (hw : ∀ o ∈ os, WfPo w o) :
    Calls Try.prog 4 #[.slice A os.length c] w fun e w' => e = .returned (.bool true) ∧ Below w.heap.size w w' := by
  have HM := Aside0.mk (made_e w A c os ho hw)
  obtain ⟨hok, hln⟩ := runD_ok hw
  generalize runD dev10 os = d at HM hok hln
  have HL := Aside0.mk hln
  have HLF := Aside0.mk (show d.fence.B.length = 80 from hln)
  have HLO := Aside0.mk (fences_loose d.fence hln)
  clear ho hw hok hln
  go_enter Try.func4, Try.ntmps4
  go_wp2_with (first | (go_at_call 20; ((with_reducible refine HM.out.mono ?_); intro e w1 hM; rcases hM with ⟨rfl, hb⟩ | ⟨p, v, s, f, rfl, hd1, hp1, hv1, hb1⟩; (have HN1 := Aside0.mk hb; clear hb); rotate_left; (have HD1 := Aside0.mk hd1; have HB1 := Aside0.mk hb1; have HV := Aside0.mk hv1; clear hd1 hp1 hv1 hb1); rotate_left)) | (go_at_call 21; ((with_reducible refine (pm_alive _).mono ?_); rintro e wA ⟨rfl, hb⟩; have HBA := Aside0.mk (bel_step HN1.out hb); clear hb)) | (go_at_call 22; (first | ((with_reducible refine (bytes_calls _ p v s f _ HD8.out).mono ?_); rintro e w9 ⟨u9, rfl, hu, hb⟩; have HB9 := Aside0.mk (bel_step HB8.out hb); have hcv := conv_own hu; rw [show (d.fence.flush 0 80).fence.B = d.B from rfl] at hcv; clear hu hb) | ((with_reducible refine (bytes_calls _ p v s f _ HD3.out).mono ?_); rintro e w4 ⟨u4, rfl, hu, hb⟩; have HCU := Aside0.mk (conv_own hu); have HD4 := Aside0.mk (HD3.out.move hb); have HB4 := Aside0.mk (bel_step HB3.out hb); have hcv := HCU.out; rw [fence_B] at hcv; clear hu hb) | ((with_reducible refine (bytes_calls _ p v s f _ HD1.out).mono ?_); rintro e w2 ⟨u2, rfl, hu, hb⟩; have HCU := Aside0.mk (conv_own hu); have HD2 := Aside0.mk (HD1.out.move hb); have HB2 := Aside0.mk (bel_step HB1.out hb); have hcv := HCU.out; clear hu hb))) | (go_at_call 24; (first | ((with_reducible refine (fence_calls _ p v s f _ HD5.out).mono ?_); rintro e w6 ⟨rfl, hd, hf⟩; have HD6 := Aside0.mk hd; have HB6 := Aside0.mk (HB5.out.trans (hf.below _ HB5.out.size (fun b hb => HV.out b hb))); clear hd hf) | ((with_reducible refine (fence_calls _ p v s f _ HD2.out).mono ?_); rintro e w3 ⟨rfl, hd, hf⟩; have HD3 := Aside0.mk hd; have HB3 := Aside0.mk (HB2.out.trans (hf.below _ HB2.out.size (fun b hb => HV.out b hb))); clear hd hf))) | (go_at_call 25; ((with_reducible refine (flush80_calls _ p v s f _ HD4.out HLF.out).mono ?_); rintro e w5 ⟨rfl, hd, hf⟩; have HD5 := Aside0.mk hd; have HB5 := Aside0.mk (HB4.out.trans (hf.below _ HB4.out.size (fun b hb => HV.out b hb))); clear hd hf)) | (go_at_call 21; ((with_reducible refine (pm_alive _).mono ?_); rintro e w7 ⟨rfl, hb⟩; have HD7 := Aside0.mk (HD6.out.move hb); have HB7 := Aside0.mk (bel_step HB6.out hb); clear hb)) | (go_at_call 26; ((with_reducible refine (loose_calls _ p v s f _ HD7.out).mono ?_); rintro e w8 ⟨u8, rfl, hu, hb⟩; rw [HLO.out] at hu; obtain ⟨A8, c8, rfl, _, _⟩ := ints_own hu; have HD8 := Aside0.mk (HD7.out.move hb); have HB8 := Aside0.mk (bel_step HB7.out hb); clear hu hb)))
  · go_ret
    exact ⟨rfl, HBA.out⟩
  · go_ret
    exact ⟨rfl, HB9.out⟩
end Go.Proofs.Ytbfogcckbhkciaa.Hand
