/- RootsNothing, walked. -/
import Derived.Test.YtliclajcifeneaaHandGB1
import Derived.Test.YtliclajcifeneaaHandGR1
import Derived.Test.YtliclajcifeneaaHandGS1
import Derived.Test.YtliclajcifeneaaHandGT1
import Derived.Test.YtliclajcifeneaaHandGT2
namespace Go.Proofs.Ytliclajcifeneaa.Hand
open Go.RowKit Go.Maps Go.Sort Go.Shelf Go.Proofs.YtliclajcifeneaaW.PrintWords Go.Proofs.Ytliclajcifeneaa.PHandRR
attribute [local go_sem high] eqA29
set_option linter.unusedVariables false
set_option linter.unusedSimpArgs false
set_option maxRecDepth 100000 in
set_option maxHeartbeats 4000000 in
theorem rootsNothing_walk (B : Option Addr) (d : Nat) (os : List S31) (o : S31) (w : World) (ho : OpsR w B d os) (hox : o.f1.size ≤ 140737488351232) :
    Calls Try.prog 6 #[.slice B os.length d, .agg #[.int .i64 o.f0, .string o.f1, .int .i64 o.f2.f0, .int .i64 o.f2.f1]] w fun e w' => e = .returned (.bool true) ∧ Below w.heap.size w w' := by
  have hu29 := Try.underlying29
  have hu31 := Try.underlying31
  have HO := Aside0.mk ho
  have hln := ho.len
  obtain ⟨ok, xo, ⟨oa, ob⟩⟩ := o
  simp only at hox ⊢
  cases hf : fewR os with
  | false =>
    have HF := Aside0.mk hf
    clear ho hf
    go_enter Try.func6, Try.ntmps6
    go_wp2_with (first | (go_at_call 10; (with_reducible refine (rnew_calls _).mono ?_); rintro e w1 ⟨p, s, rfl, h1, hb1, hp1, hs1⟩; rw [World.size_alloc] at hp1 hs1; have H1 := Aside0.mk h1; have HB1 := Aside0.mk (bel_step (below_alloc (Below.refl w.heap.size w) _) hb1); have hv1 := (hb1.block w.heap.size (by rw [World.size_alloc]; omega)).trans (heap_alloc_new w _); have HV1 := Aside0.mk hv1; clear h1 hb1 hv1) | (go_at_call 11; (with_reducible refine (few_row _ B d os (HO.out.below HB1.out)).mono ?_); rw [HF.out]; rintro e wF ⟨rfl, hbF⟩; have HBF := Aside0.mk (bel_step HB1.out hbF); have HFF := Aside0.mk hbF; have hvF := (hbF.block w.heap.size (blk_lt HV1.out)).trans HV1.out; have HVF := Aside0.mk hvF; have v1 := blk_cell hvF (i := 1) rfl; clear hbF hvF) | (go_at_call 12; (with_reducible refine (aliveR_calls _).mono ?_); rintro e wA ⟨rfl, hbA⟩; have HBA := Aside0.mk (bel_step HBF.out hbA); clear hbA))
    go_ret
    exact ⟨rfl, HBA.out⟩
  | true =>
    have HF := Aside0.mk hf
    by_cases hbig : 1000 < xo.size
    · have hbg : ((xo.size : Int) > 1000) := by omega
      clear ho hf
      go_enter Try.func6, Try.ntmps6
      go_wp2_with (first | (go_at_call 10; (with_reducible refine (rnew_calls _).mono ?_); rintro e w1 ⟨p, s, rfl, h1, hb1, hp1, hs1⟩; rw [World.size_alloc] at hp1 hs1; have H1 := Aside0.mk h1; have HB1 := Aside0.mk (bel_step (below_alloc (Below.refl w.heap.size w) _) hb1); have hv1 := (hb1.block w.heap.size (by rw [World.size_alloc]; omega)).trans (heap_alloc_new w _); have HV1 := Aside0.mk hv1; clear h1 hb1 hv1) | (go_at_call 11; (with_reducible refine (few_row _ B d os (HO.out.below HB1.out)).mono ?_); rw [HF.out]; rintro e wF ⟨rfl, hbF⟩; have HBF := Aside0.mk (bel_step HB1.out hbF); have HFF := Aside0.mk hbF; have hvF := (hbF.block w.heap.size (blk_lt HV1.out)).trans HV1.out; have HVF := Aside0.mk hvF; have v1 := blk_cell hvF (i := 1) rfl; clear hbF hvF) | (go_at_call 12; (with_reducible refine (aliveR_calls _).mono ?_); rintro e wA ⟨rfl, hbA⟩; have HBA := Aside0.mk (bel_step HBF.out hbA); clear hbA))
      go_ret
      exact ⟨rfl, HBA.out⟩
    · obtain ⟨hl100, hsz⟩ := fewR_yes hf
      have HSZ := Aside0.mk hsz
      have hbg : ¬ ((xo.size : Int) > 1000) := by omega
      clear ho hf hsz
      go_enter Try.func6, Try.ntmps6
      go_wp2_with (first | (go_at_call 10; (with_reducible refine (rnew_calls _).mono ?_); rintro e w1 ⟨p, s, rfl, h1, hb1, hp1, hs1⟩; rw [World.size_alloc] at hp1 hs1; have H1 := Aside0.mk h1; have HB1 := Aside0.mk (bel_step (below_alloc (Below.refl w.heap.size w) _) hb1); have hv1 := (hb1.block w.heap.size (by rw [World.size_alloc]; omega)).trans (heap_alloc_new w _); have HV1 := Aside0.mk hv1; clear h1 hb1 hv1) | (go_at_call 11; (with_reducible refine (few_row _ B d os (HO.out.below HB1.out)).mono ?_); rw [HF.out]; rintro e wF ⟨rfl, hbF⟩; have HBF := Aside0.mk (bel_step HB1.out hbF); have HFF := Aside0.mk hbF; have hvF := (hbF.block w.heap.size (blk_lt HV1.out)).trans HV1.out; have HVF := Aside0.mk hvF; have v1 := blk_cell hvF (i := 1) rfl; clear hbF hvF))
      have HHF := Aside0.mk (H1.out.below HFF.out)
      clear H1 HB1 HFF HV1 v1
      go_loopw [32] (fun vi wr => ∃ (t : Nat) (L : List Rt), vi = .int .i64 t ∧ t ≤ os.length ∧ Aside0 (HasR wr p s L) ∧ Aside0 (wr.heap[w.heap.size]? = some (.cells #[.int .i64 ok, .string xo, .int .i64 oa, .int .i64 ob] 31 (0, 0))) ∧ Aside0 (Below w.heap.size w wr)) (fun vi _ => os.length - (nOf vi).toNat)
      case atStart => exact ⟨0, [], rfl, Nat.zero_le _, HHF, HVF, HBF⟩
      case round =>
        obtain ⟨t, L, rfl, ht, HH, HV, HB⟩ := hrel
        clear HHF HBF HVF
        by_cases hlt : t < os.length
        · obtain ⟨⟨k, x, ⟨a, b⟩⟩, hq⟩ : ∃ q, os[t]? = some q := ⟨_, List.getElem?_eq_getElem hlt⟩
          have HX : Aside0 (x.size ≤ 50000) := ⟨by have := HSZ.out _ (List.mem_of_getElem? hq); simp only at this; omega⟩
          obtain ⟨L2, ⟨ha, hb⟩, e0, hr⟩ : ∃ L2 h e0, doE L k x.data.toList (a, b) = (L2, h, e0) := ⟨_, _, _, rfl⟩
          have HDO := Aside0.mk hr
          obtain ⟨ad, hA, x0, x1, x2, x3⟩ := op_at (HO.out.below HB.out) hq
          subst hA
          clear hq hr
          go_wp2_with (go_at_call 14; (with_reducible refine (does_row _ p s L (HH.out.below (below_alloc (Below.refl _ _) _)) k x HX.out a b HDO.out).mono ?_); rintro e w4 ⟨rfl, h4, hf4⟩; have H4 := Aside0.mk h4; have HV4 := Aside0.mk ((HH.out.below (below_alloc (Below.refl _ _) (.cells #[.int .i64 k, .string x, .int .i64 a, .int .i64 b] 31))).sfr hf4 (old_blk HV.out _) (by omega)); have HB4 := Aside0.mk ((below_alloc HB.out (.cells #[.int .i64 k, .string x, .int .i64 a, .int .i64 b] 31)).trans (hf4.below w.heap.size (below_alloc HB.out (.cells #[.int .i64 k, .string x, .int .i64 a, .int .i64 b] 31)).size (fun b hb => by omega))); clear h4 hf4)
          go_roundw
          case rel => exact ⟨t + 1, L2, by go_num, by omega, H4, HV4, HB4⟩
          case measure => simp [nOf]; omega
        · obtain ⟨L2, ⟨ha, hb⟩, e0, hr⟩ : ∃ L2 h e0, doE L ok xo.data.toList (oa, ob) = (L2, h, e0) := ⟨_, _, _, rfl⟩
          have HER := Aside0.mk (doE_err L ok xo.data.toList (oa, ob) hr)
          have HDO := Aside0.mk hr
          clear hr
          by_cases he : e0 = 0
          · subst he
            clear HER
            go_wp2_with (first | (go_at_call 21; (with_reducible refine (renc_calls _ p s L HH.out).mono ?_); rintro e w5 ⟨u5, rfl, hr5, hb5⟩; have hcv5 := conv_own hr5; have H5 := Aside0.mk (HH.out.below hb5); have hv5 := (hb5.block w.heap.size (blk_lt HV.out)).trans HV.out; have x0 := blk_cell hv5 (i := 0) rfl; have x1 := blk_cell hv5 (i := 1) rfl; have x2 := blk_cell hv5 (i := 2) rfl; have x3 := blk_cell hv5 (i := 3) rfl; have HB5 := Aside0.mk (bel_step HB.out hb5); clear hr5 hb5 hv5) | (go_at_call 14; (with_reducible refine (does_row _ p s L H5.out ok xo (by omega) oa ob HDO.out).mono ?_); rintro e w6 ⟨rfl, h6, hf6⟩; have H6 := Aside0.mk (h6.below (below_alloc (Below.refl w6.heap.size w6) (.cells #[.int .i64 ha, .int .i64 hb] 29))); have HB6 := Aside0.mk (below_alloc (HB5.out.trans (hf6.below w.heap.size HB5.out.size (fun b hb => by omega))) (.cells #[.int .i64 ha, .int .i64 hb] 29)); clear h6 hf6) | (go_at_call 12; (with_reducible refine (aliveR_calls _).mono ?_); rintro e wA ⟨rfl, hbA⟩; have HA := Aside0.mk (H6.out.below hbA); have HBA := Aside0.mk (bel_step HB6.out hbA); clear hbA))
            go_ret
            exact ⟨rfl, HBA.out⟩
          · obtain rfl : L = L2 := (HER.out.resolve_left he).symm
            clear HER
            go_wp2_with (first | (go_at_call 21; (with_reducible refine (renc_calls _ p s L HH.out).mono ?_); rintro e w5 ⟨u5, rfl, hr5, hb5⟩; have hcv5 := conv_own hr5; have H5 := Aside0.mk (HH.out.below hb5); have hv5 := (hb5.block w.heap.size (blk_lt HV.out)).trans HV.out; have x0 := blk_cell hv5 (i := 0) rfl; have x1 := blk_cell hv5 (i := 1) rfl; have x2 := blk_cell hv5 (i := 2) rfl; have x3 := blk_cell hv5 (i := 3) rfl; have HB5 := Aside0.mk (bel_step HB.out hb5); clear hr5 hb5 hv5) | (go_at_call 14; (with_reducible refine (does_row _ p s L H5.out ok xo (by omega) oa ob HDO.out).mono ?_); rintro e w6 ⟨rfl, h6, hf6⟩; have H6 := Aside0.mk (h6.below (below_alloc (Below.refl w6.heap.size w6) (.cells #[.int .i64 ha, .int .i64 hb] 29))); have HB6 := Aside0.mk (below_alloc (HB5.out.trans (hf6.below w.heap.size HB5.out.size (fun b hb => by omega))) (.cells #[.int .i64 ha, .int .i64 hb] 29)); clear h6 hf6) | (go_at_call 12; (with_reducible refine (aliveR_calls _).mono ?_); rintro e wA ⟨rfl, hbA⟩; have HA := Aside0.mk (H6.out.below hbA); have HBA := Aside0.mk (bel_step HB6.out hbA); clear hbA) | (go_at_call 21; (with_reducible refine (renc_calls _ p s _ HA.out).mono ?_); rintro e w7 ⟨u7, rfl, hr7, hb7⟩; have hcv7 := conv_own hr7; have HB7 := Aside0.mk (bel_step HBA.out hb7); clear hr7 hb7))
            go_ret
            exact ⟨rfl, HB7.out⟩
end Go.Proofs.Ytliclajcifeneaa.Hand
