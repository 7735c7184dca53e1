/- PmemCopies: the walk. -/
import Derived.Test.YtbfogcckbhkciaaHandPmLaw
import Derived.Test.YtbfogcckbhkciaaWLast
namespace Go.Proofs.Ytbfogcckbhkciaa.Hand
open Go.RowKit Go.Maps Go.Proofs.YtbfogcckbhkciaaW.PrintWords Go.Proofs.YtbfogcckbhkciaaW.PrintLast
set_option linter.unusedVariables false
set_option linter.unusedSimpArgs false
set_option maxRecDepth 100000 in
set_option maxHeartbeats 2000000 in
theorem pmemCopies_walk (A : Option Addr) (c : Nat) (os : List OpP) (B : Option Addr) (e : Nat) (ms : List OpP) (w : World) (ho : PoK.C w A os.length os) (hw : ∀ o ∈ os, WfPo w o) (hm : PoK.C w B ms.length ms) (hwm : ∀ o ∈ ms, WfPo w o) :
    Calls Try.prog 7 #[.slice A os.length c, .slice B ms.length e] w fun e w' => e = .returned (.bool true) ∧ Below w.heap.size w w' := by
  have HM := Aside0.mk (made_e w A c os ho hw)
  obtain ⟨hok, hln⟩ := runD_ok hw
  generalize runD dev10 os = d at HM hok hln
  have HL := Aside0.mk hln
  have HMO := Aside0.mk hm
  have HMW := Aside0.mk hwm
  have hl : ms.length ≤ 9223372036854775807 := hm.2.1
  clear ho hw hok hln hm hwm
  go_enter Try.func7, Try.ntmps7
  go_wp2_with (first | (go_at_call 20; ((with_reducible refine HM.out.mono ?_); intro e w1 hM; rcases hM with ⟨rfl, hb⟩ | ⟨p, v, s, f, rfl, hd1, hp1, hv1, hb1⟩; (have HN1 := Aside0.mk hb; clear hb); rotate_left; (have HD1 := Aside0.mk hd1; have HB1 := Aside0.mk hb1; have HV := Aside0.mk hv1; clear hd1 hp1 hv1 hb1); rotate_left)) | (go_at_call 21; ((with_reducible refine (pm_alive _).mono ?_); rintro e wA ⟨rfl, hb⟩; have HBA := Aside0.mk (bel_step HN1.out hb); clear hb)) | (go_at_call 21; ((with_reducible refine (pm_alive _).mono ?_); rintro e wA ⟨rfl, hb⟩; have HBA := Aside0.mk (bel_step HB2.out hb); clear hb)) | (go_at_call 32; ((with_reducible refine (few3_calls w1 B e ms (Kd.C_below HMO.out HB1.out) (wfs_below HMW.out HB1.out)).mono ?_); rintro e w2 ⟨b, rfl, hb2⟩; have HD2 := Aside0.mk (HD1.out.move hb2); have HB2 := Aside0.mk (bel_step HB1.out hb2); clear hb2; cases b)))
  · go_ret
    exact ⟨rfl, HBA.out⟩
  · go_ret
    exact ⟨rfl, HBA.out⟩
  have HD2d := Aside0.mk (HD2.out.move (Below.refl _ _).drew)
  have HB2d := Aside0.mk HB2.out.drew
  refine start_ (n := 7) (S := fun w' => True) (ds := []) #[false, false, false, false, false, false, false] (by kernel_rfl) rfl rfl trivial (fun hHeld => ?_)
  refine pure_ (i := 0) (N := some 25) (v := ?_) (a' := ?_) #[true, false, false, false, false, false, false] rfl rfl (by kernel_rfl) (fun _ _ _ h => h) (Or.inl ⟨by rfl, ?_⟩) ?_ ?_
  rotate_left
  · intro w'
    go_simp
    with_reducible rfl
  rotate_left
  · simp only [Act.put, List.setIfInBounds_toArray, List.set_cons_zero, List.set_cons_succ, i64_w, i32_w]
    rfl
  refine pure_ (i := 3) (N := some 28) (v := ?_) (a' := ?_) #[true, false, false, true, false, false, false] rfl rfl (by kernel_rfl) (fun _ _ _ h => h) (Or.inl ⟨by rfl, ?_⟩) ?_ ?_
  rotate_left
  · intro w'
    go_simp
    with_reducible rfl
  rotate_left
  · simp only [Act.put, List.setIfInBounds_toArray, List.set_cons_zero, List.set_cons_succ, i64_w, i32_w]
    rfl
  refine one_ (i := 1) (N := some 26) #[true, true, false, true, false, false, false] rfl rfl (by kernel_rfl) (by decide) (fun K hK => ?_)
  refine goes_ Try.func22 (by kernel_rfl) rfl #[.pointer (some ⟨p, 0, none⟩)] (by rfl) rfl rfl (by simp only [List.map_toArray, List.map_cons, List.map_nil]; rfl) ?_
  with_reducible refine (bytes_calls _ p v s f _ HD2d.out).mono ?_
  rintro e w3 ⟨u3, rfl, hu3, hb3⟩
  refine ⟨_, rfl, ?_⟩
  obtain ⟨A3, c3, rfl, _, hR3⟩ := reads_own2 hu3
  have HR3 := Aside0.mk hR3
  have HD3 := Aside0.mk (HD2d.out.move hb3)
  have HB3 := Aside0.mk (bel_step HB2d.out hb3)
  clear hu3 hb3 hR3
  refine hK.out _ _ trivial (fun hHeld => ?_)
  clear hK K
  refine norm_ (a' := ?_) ?_ ?_
  rotate_left
  · show Act.put _ (some 26) _ = _
    simp only [Act.put, List.setIfInBounds_toArray, List.set_cons_zero, List.set_cons_succ, i64_w, i32_w]
    rfl
  refine join_ (σ := Option Addr × Nat) 2 #[true, true, true, true, true, false, false] (fun s => [(27, .string (strOfNums d.B)), (29, .slice s.1 (looseM d).length s.2)]) (fun s' w' => Below w.heap.size w w' ∧ HasD w' p v s f d ∧ ReadsInt w' .i64 s'.1 (looseM d).length (looseM d)) ?_ ?_
  rotate_left
  · intro hCont
    refine two_ (i := 2) (j := 4) (Ni := some 27) (Nj := some 29) #[true, true, true, true, false, false, false] #[true, true, false, true, true, false, false] rfl rfl rfl rfl (by kernel_rfl) (by decide) (by decide) (fun K hK => ?_) (fun K hK => ?_)
    · skip
      have hcv := conv_reads (c := c3) HR3.out
      refine value_ (w1 := ?_) (v := ?_) (by rfl) rfl ?_ ?_
      rotate_left 2
      · go_simp
        constructor
        · rfl
        · rfl
      clear hcv
      refine hK.out _ _ trivial (fun hHeld => ?_)
      clear hK K
      refine norm_ (a' := ?_) ?_ ?_
      rotate_left
      · show Act.put _ (some 27) _ = _
        simp only [Act.put, List.setIfInBounds_toArray, List.set_cons_zero, List.set_cons_succ, i64_w, i32_w]
        rfl
      refine one_ (i := 4) (N := some 29) #[true, true, true, true, true, false, false] rfl rfl (by kernel_rfl) (by decide) (fun K hK => ?_)
      refine goes_ Try.func26 (by kernel_rfl) rfl #[.pointer (some ⟨p, 0, none⟩)] (by rfl) rfl rfl (by simp only [List.map_toArray, List.map_cons, List.map_nil]; rfl) ?_
      with_reducible refine (loose_calls _ p v s f _ HD3.out).mono ?_
      rintro e w4 ⟨u4, rfl, hu4, hb4⟩
      refine ⟨_, rfl, ?_⟩
      obtain ⟨A4, c4, rfl, hR4, _⟩ := ints_own hu4
      have HR4 := Aside0.mk hR4
      have HK4 := Aside0.mk hb4
      have HD4 := Aside0.mk (HD3.out.move hb4)
      have HB4 := Aside0.mk (bel_step HB3.out hb4)
      clear hu4 hb4 hR4
      refine hK.out _ _ trivial (fun hHeld => ?_)
      clear hK K
      refine norm_ (a' := ?_) ?_ ?_
      rotate_left
      · show Act.put _ (some 29) _ = _
        simp only [Act.put, List.setIfInBounds_toArray, List.set_cons_zero, List.set_cons_succ, i64_w, i32_w]
        rfl
      exact norm_ (by first | (simp only [putAll, Act.put, List.setIfInBounds_toArray, List.set_cons_zero, List.set_cons_succ]; done) | (simp only [putAll, Act.put, List.setIfInBounds_toArray, List.set_cons_zero, List.set_cons_succ]; rfl)) (hCont (A4, c4) _ ⟨HB4.out, HD4.out, HR4.out⟩)
    · skip
      refine goes_ Try.func26 (by kernel_rfl) rfl #[.pointer (some ⟨p, 0, none⟩)] (by rfl) rfl rfl (by simp only [List.map_toArray, List.map_cons, List.map_nil]; rfl) ?_
      with_reducible refine (loose_calls _ p v s f _ HD3.out).mono ?_
      rintro e w4 ⟨u4, rfl, hu4, hb4⟩
      refine ⟨_, rfl, ?_⟩
      obtain ⟨A4, c4, rfl, hR4, _⟩ := ints_own hu4
      have HR4 := Aside0.mk hR4
      have HK4 := Aside0.mk hb4
      have HD4 := Aside0.mk (HD3.out.move hb4)
      have HB4 := Aside0.mk (bel_step HB3.out hb4)
      clear hu4 hb4 hR4
      refine hK.out _ _ trivial (fun hHeld => ?_)
      clear hK K
      refine norm_ (a' := ?_) ?_ ?_
      rotate_left
      · show Act.put _ (some 29) _ = _
        simp only [Act.put, List.setIfInBounds_toArray, List.set_cons_zero, List.set_cons_succ, i64_w, i32_w]
        rfl
      refine one_ (i := 2) (N := some 27) #[true, true, true, true, true, false, false] rfl rfl (by kernel_rfl) (by decide) (fun K hK => ?_)
      have hcv := conv_reads (c := c3) (HR3.out.below HK4.out)
      refine value_ (w1 := ?_) (v := ?_) (by rfl) rfl ?_ ?_
      rotate_left 2
      · go_simp
        constructor
        · rfl
        · rfl
      clear hcv
      refine hK.out _ _ trivial (fun hHeld => ?_)
      clear hK K
      refine norm_ (a' := ?_) ?_ ?_
      rotate_left
      · show Act.put _ (some 27) _ = _
        simp only [Act.put, List.setIfInBounds_toArray, List.set_cons_zero, List.set_cons_succ, i64_w, i32_w]
        rfl
      exact norm_ (by first | (simp only [putAll, Act.put, List.setIfInBounds_toArray, List.set_cons_zero, List.set_cons_succ]; done) | (simp only [putAll, Act.put, List.setIfInBounds_toArray, List.set_cons_zero, List.set_cons_succ]; rfl)) (hCont (A4, c4) _ ⟨HB4.out, HD4.out, HR4.out⟩)
  rintro ⟨AJ, cJ⟩ wJ ⟨hbJ, hdJ, hrJ⟩
  have HBJ := Aside0.mk hbJ
  have HDJ := Aside0.mk hdJ
  have HRJ := Aside0.mk hrJ
  clear hbJ hdJ hrJ
  have hHeld : True := trivial
  refine norm_ (a' := ?_) ?_ ?_
  rotate_left
  · simp only [putAll, Act.put, List.setIfInBounds_toArray, List.set_cons_zero, List.set_cons_succ]
    rfl
  refine pure_ (i := 5) (N := some 7) (v := ?_) (a' := ?_) #[true, true, true, true, true, true, false] rfl rfl (by kernel_rfl) (fun _ _ _ h => h) (Or.inl ⟨by rfl, ?_⟩) ?_ ?_
  rotate_left
  · intro w'
    go_simp
    with_reducible rfl
  rotate_left
  · simp only [Act.put, List.setIfInBounds_toArray, List.set_cons_zero, List.set_cons_succ, i64_w, i32_w]
    rfl
  refine pure_ (i := 6) (N := some 8) (v := ?_) (a' := ?_) #[true, true, true, true, true, true, true] rfl rfl (by kernel_rfl) (fun _ _ _ h => h) (Or.inl ⟨by rfl, ?_⟩) ?_ ?_
  rotate_left
  · intro w'
    go_simp
    with_reducible rfl
  rotate_left
  · simp only [Act.put, List.setIfInBounds_toArray, List.set_cons_zero, List.set_cons_succ, i64_w, i32_w]
    rfl
  refine done_ (by kernel_rfl) ?_

  go_wp2_with (first | (go_at_call 29; ((with_reducible refine (copy_calls _ p v s f _ HDJ.out).mono ?_); rintro e w5 ⟨q, u, s', f', rfl, hd5, hq5, ho5, hb5⟩; have HC5 := Aside0.mk hd5; have HO5 := Aside0.mk ho5; have HK5 := Aside0.mk hb5; clear hd5 hq5 ho5 hb5)) | (go_at_call 22; ((with_reducible refine (bytes_calls _ q u s' f' _ HC5.out).mono ?_); rintro e w6 ⟨u6, rfl, hu6, hb6⟩; have hcv := conv_own hu6; have HC6 := Aside0.mk (HC5.out.move hb6); have HK6 := Aside0.mk (bel_step HK5.out hb6); clear hu6 hb6)))
  go_loopw [43] (fun i wr => ∃ k : Nat, k ≤ ms.length ∧ i = .int .i64 k ∧ Aside0 (HasD wr q u s' f' (runD d (ms.take k))) ∧ Aside0 (Below wJ.heap.size wJ wr)) (fun i _ => (ms.length - intOf i).toNat)
  case atStart => exact ⟨0, Nat.zero_le _, rfl, HC6, HK6⟩
  case round =>
    obtain ⟨k, hk, rfl, HD, HK⟩ := hrel
    have HB := Aside0.mk (bel_step HBJ.out HK.out)
    by_cases hlt : k < ms.length
    · (obtain ⟨o, hx⟩ : ∃ o, ms[k]? = some o := ⟨_, List.getElem?_eq_getElem hlt⟩; obtain ⟨bb, ob, hB, hcb⟩ := C_at (Kd.C_below HMO.out HB.out) (by decide) hx; subst hB; have HWO := Aside0.mk (HMW.out o (List.mem_of_getElem? hx)); obtain ⟨z, a, long, A1, c1, bs, A2, c2, ks⟩ := o; have b0 : wr.cell? ⟨bb, ob + k * 5, none⟩ = some (.int .i64 z) := hcb 0 (by decide); have b1 : wr.cell? ⟨bb, ob + k * 5 + 1, none⟩ = some (.int .i64 a) := hcb 1 (by decide); have b2 : wr.cell? ⟨bb, ob + k * 5 + 2, none⟩ = some (.int .i64 long) := hcb 2 (by decide); have b3 : wr.cell? ⟨bb, ob + k * 5 + 3, none⟩ = some (.slice A1 bs.length c1) := hcb 3 (by decide); have b4 : wr.cell? ⟨bb, ob + k * 5 + 4, none⟩ = some (.slice A2 ks.length c2) := hcb 4 (by decide); clear hcb)
      have HRN := Aside0.mk (runD_take (d := d) hx)
      clear hx
      have HDO := Aside0.mk (does3_calls _ q u s' f' _ z a long A1 c1 bs A2 c2 ks (HD.out.move (below_alloc (Below.refl _ _) (.cells #[.int .i64 z, .int .i64 a, .int .i64 long, .slice A1 bs.length c1, .slice A2 ks.length c2] 26))) (HWO.out.below (below_alloc HB.out _)) (reads_off HWO.out.rk (fun b hb => Nat.le_trans HBJ.out.size (HO5.out b (.inl hb)))))
      go_wp2_with (go_at_call 33; (with_reducible refine HDO.out.mono ?_); rintro e w7 ⟨t, n, rfl, hd7, hf7⟩; have HD7 := Aside0.mk hd7; have HK7 := Aside0.mk ((below_alloc HK.out _).trans (hf7.below _ (below_alloc HK.out _).size (fun b hb => HO5.out b hb))); clear hd7 hf7)
      refine ⟨⟨k + 1, by omega, by go_num, ⟨?_⟩, HK7⟩, by simp [intOf]; omega⟩
      rw [HRN.out]
      exact HD7.out
    · obtain rfl : k = ms.length := by omega
      have HDr := Aside0.mk (HDJ.out.move HK.out)
      have HRr := Aside0.mk (HRJ.out.below HK.out)
      go_wp2_with (first | (go_at_call 21; ((with_reducible refine (pm_alive _).mono ?_); rintro e w8 ⟨rfl, hb⟩; have HB8 := Aside0.mk (bel_step HB.out hb); have HD8 := Aside0.mk (HDr.out.move hb); have HR8 := Aside0.mk (HRr.out.below hb); clear hb)) | (go_at_call 22; ((with_reducible refine (bytes_calls _ p v s f _ HD8.out).mono ?_); rintro e w9 ⟨u9, rfl, hu9, hb9⟩; have hcv := conv_own hu9; have HD9 := Aside0.mk (HD8.out.move hb9); have HB9 := Aside0.mk (bel_step HB8.out hb9); have HR9 := Aside0.mk (HR8.out.below hb9); clear hu9 hb9)) | (go_at_call 26; ((with_reducible refine (loose_calls _ p v s f _ HD9.out).mono ?_); rintro e wA ⟨uA, rfl, huA, hbA⟩; obtain ⟨AA, cA, rfl, hRA, _⟩ := ints_own huA; have HRA := Aside0.mk hRA; have HBA := Aside0.mk (bel_step HB9.out hbA); have HRX := Aside0.mk (HR9.out.below hbA); clear huA hbA hRA)) | (go_at_call 34; ((with_reducible refine (same_calls AA AJ cA cJ _ _ _ HRA.out HRX.out).mono ?_); rintro e wB ⟨rfl, hb⟩; have HBB := Aside0.mk (bel_step HBA.out hb); clear hb)))
      go_ret
      exact ⟨by simp, HBB.out⟩
end Go.Proofs.Ytbfogcckbhkciaa.Hand
