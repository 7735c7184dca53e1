/- RootsLast, walked. -/
import Derived.Test.YtliclajcifeneaaHandGB1
import Derived.Test.YtliclajcifeneaaHandGR1
import Derived.Test.YtliclajcifeneaaHandGS1
import Derived.Test.YtliclajcifeneaaHandGT1
import Derived.Test.YtliclajcifeneaaHandGT2
namespace Go.Proofs.Ytliclajcifeneaa.Hand
open Go.RowKit Go.Maps Go.Sort Go.Shelf Go.Proofs.YtliclajcifeneaaW.PrintWords Go.Proofs.Ytliclajcifeneaa.PHandRR
attribute [local go_sem high] eqA29
set_option linter.unusedVariables false
set_option linter.unusedSimpArgs false
theorem clearE_get {L : List Rt} (hs : SortedR L) {x : Nm} {h : Int × Int} (hg : getR L x = some h) : getE L x = (h, 0) ∧ clearE L x = (delR L x, 0) ∧ getE (delR L x) x = ((0, 0), 130) := by
  refine ⟨by rw [getE, hg], by rw [clearE, hg]; rfl, ?_⟩
  rw [getE, getR_delR hs, if_pos rfl]
set_option maxRecDepth 100000 in
set_option maxHeartbeats 4000000 in
theorem rootsLast_walk (B : Option Addr) (d : Nat) (os : List S31) (o : S31) (B2 : Option Addr) (d2 : Nat) (ms : List S31) (w : World) (ho : OpsR w B d os) (hox : o.f1.size ≤ 140737488351232) (hm : OpsR w B2 d2 ms) :
    Calls Try.prog 4 #[.slice B os.length d, .agg #[.int .i64 o.f0, .string o.f1, .int .i64 o.f2.f0, .int .i64 o.f2.f1], .slice B2 ms.length d2] w fun e w' => e = .returned (.bool true) ∧ Below w.heap.size w w' := by
  have hu29 := Try.underlying29
  have hu31 := Try.underlying31
  have HO := Aside0.mk ho
  have HM := Aside0.mk hm
  have hln := ho.len
  have hlm := hm.len
  obtain ⟨ok, xo, ⟨oa, ob⟩⟩ := o
  simp only at hox ⊢
  cases hf : fewR os with
  | false =>
    have HF := Aside0.mk hf
    clear ho hf hm
    go_enter Try.func4, Try.ntmps4
    go_wp2_with (first | (go_at_call 10; (with_reducible refine (rnew_calls _).mono ?_); rintro e w1 ⟨p, s, rfl, h1, hb1, hp1, hs1⟩; rw [World.size_alloc] at hp1 hs1; have H1 := Aside0.mk h1; have HB1 := Aside0.mk (bel_step (below_alloc (Below.refl w.heap.size w) _) hb1); have hv1 := (hb1.block w.heap.size (by rw [World.size_alloc]; omega)).trans (heap_alloc_new w _); have HV1 := Aside0.mk hv1; clear h1 hb1 hv1) | (go_at_call 11; (with_reducible refine (few_row _ B d os (HO.out.below HB1.out)).mono ?_); rw [HF.out]; rintro e wF ⟨rfl, hbF⟩; have HBF := Aside0.mk (bel_step HB1.out hbF); have HFF := Aside0.mk hbF; have hvF := (hbF.block w.heap.size (blk_lt HV1.out)).trans HV1.out; have HVF := Aside0.mk hvF; have v1 := blk_cell hvF (i := 1) rfl; clear hbF hvF) | (go_at_call 12; (with_reducible refine (aliveR_calls _).mono ?_); rintro e wA ⟨rfl, hbA⟩; have HBA := Aside0.mk (bel_step HBF.out hbA); clear hbA))
    go_ret
    exact ⟨rfl, HBA.out⟩
  | true =>
    have HF := Aside0.mk hf
    cases hg : fewR ms with
    | false =>
      have HG := Aside0.mk hg
      clear ho hf hm hg
      go_enter Try.func4, Try.ntmps4
      go_wp2_with (first | (go_at_call 10; (with_reducible refine (rnew_calls _).mono ?_); rintro e w1 ⟨p, s, rfl, h1, hb1, hp1, hs1⟩; rw [World.size_alloc] at hp1 hs1; have H1 := Aside0.mk h1; have HB1 := Aside0.mk (bel_step (below_alloc (Below.refl w.heap.size w) _) hb1); have hv1 := (hb1.block w.heap.size (by rw [World.size_alloc]; omega)).trans (heap_alloc_new w _); have HV1 := Aside0.mk hv1; clear h1 hb1 hv1) | (go_at_call 11; (with_reducible refine (few_row _ B d os (HO.out.below HB1.out)).mono ?_); rw [HF.out]; rintro e wF ⟨rfl, hbF⟩; have HBF := Aside0.mk (bel_step HB1.out hbF); have HFF := Aside0.mk hbF; have hvF := (hbF.block w.heap.size (blk_lt HV1.out)).trans HV1.out; have HVF := Aside0.mk hvF; have v1 := blk_cell hvF (i := 1) rfl; clear hbF hvF) | (go_at_call 11; (with_reducible refine (few_row _ B2 d2 ms (HM.out.below HBF.out)).mono ?_); rw [HG.out]; rintro e wG ⟨rfl, hbG⟩; have HBG := Aside0.mk (bel_step HBF.out hbG); have HGG := Aside0.mk (bel_step HFF.out hbG); have hvG := (hbG.block w.heap.size (blk_lt HVF.out)).trans HVF.out; have HVG := Aside0.mk hvG; have v1 := blk_cell hvG (i := 1) rfl; clear hbG hvG) | (go_at_call 12; (with_reducible refine (aliveR_calls _).mono ?_); rintro e wA ⟨rfl, hbA⟩; have HBA := Aside0.mk (bel_step HBG.out hbA); clear hbA))
      go_ret
      exact ⟨rfl, HBA.out⟩
    | true =>
      have HG := Aside0.mk hg
      by_cases hbig : 1000 < xo.size
      · have hbg : ((xo.size : Int) > 1000) := by omega
        clear ho hf hm hg
        go_enter Try.func4, Try.ntmps4
        go_wp2_with (first | (go_at_call 10; (with_reducible refine (rnew_calls _).mono ?_); rintro e w1 ⟨p, s, rfl, h1, hb1, hp1, hs1⟩; rw [World.size_alloc] at hp1 hs1; have H1 := Aside0.mk h1; have HB1 := Aside0.mk (bel_step (below_alloc (Below.refl w.heap.size w) _) hb1); have hv1 := (hb1.block w.heap.size (by rw [World.size_alloc]; omega)).trans (heap_alloc_new w _); have HV1 := Aside0.mk hv1; clear h1 hb1 hv1) | (go_at_call 11; (with_reducible refine (few_row _ B d os (HO.out.below HB1.out)).mono ?_); rw [HF.out]; rintro e wF ⟨rfl, hbF⟩; have HBF := Aside0.mk (bel_step HB1.out hbF); have HFF := Aside0.mk hbF; have hvF := (hbF.block w.heap.size (blk_lt HV1.out)).trans HV1.out; have HVF := Aside0.mk hvF; have v1 := blk_cell hvF (i := 1) rfl; clear hbF hvF) | (go_at_call 11; (with_reducible refine (few_row _ B2 d2 ms (HM.out.below HBF.out)).mono ?_); rw [HG.out]; rintro e wG ⟨rfl, hbG⟩; have HBG := Aside0.mk (bel_step HBF.out hbG); have HGG := Aside0.mk (bel_step HFF.out hbG); have hvG := (hbG.block w.heap.size (blk_lt HVF.out)).trans HVF.out; have HVG := Aside0.mk hvG; have v1 := blk_cell hvG (i := 1) rfl; clear hbG hvG) | (go_at_call 12; (with_reducible refine (aliveR_calls _).mono ?_); rintro e wA ⟨rfl, hbA⟩; have HBA := Aside0.mk (bel_step HBG.out hbA); clear hbA))
        go_ret
        exact ⟨rfl, HBA.out⟩
      · obtain ⟨hl100, hsz⟩ := fewR_yes hf
        obtain ⟨hm100, hsm⟩ := fewR_yes hg
        have HSZ := Aside0.mk hsz
        have HSM := Aside0.mk hsm
        have hbg : ¬ ((xo.size : Int) > 1000) := by omega
        have HXM : Aside0 (xo.size ≤ maxLen) := ⟨by unfold maxLen; omega⟩
        clear ho hf hm hg hsz hsm
        go_enter Try.func4, Try.ntmps4
        go_wp2_with (first | (go_at_call 10; (with_reducible refine (rnew_calls _).mono ?_); rintro e w1 ⟨p, s, rfl, h1, hb1, hp1, hs1⟩; rw [World.size_alloc] at hp1 hs1; have H1 := Aside0.mk h1; have HB1 := Aside0.mk (bel_step (below_alloc (Below.refl w.heap.size w) _) hb1); have hv1 := (hb1.block w.heap.size (by rw [World.size_alloc]; omega)).trans (heap_alloc_new w _); have HV1 := Aside0.mk hv1; clear h1 hb1 hv1) | (go_at_call 11; (with_reducible refine (few_row _ B d os (HO.out.below HB1.out)).mono ?_); rw [HF.out]; rintro e wF ⟨rfl, hbF⟩; have HBF := Aside0.mk (bel_step HB1.out hbF); have HFF := Aside0.mk hbF; have hvF := (hbF.block w.heap.size (blk_lt HV1.out)).trans HV1.out; have HVF := Aside0.mk hvF; have v1 := blk_cell hvF (i := 1) rfl; clear hbF hvF) | (go_at_call 11; (with_reducible refine (few_row _ B2 d2 ms (HM.out.below HBF.out)).mono ?_); rw [HG.out]; rintro e wG ⟨rfl, hbG⟩; have HBG := Aside0.mk (bel_step HBF.out hbG); have HGG := Aside0.mk (bel_step HFF.out hbG); have hvG := (hbG.block w.heap.size (blk_lt HVF.out)).trans HVF.out; have HVG := Aside0.mk hvG; have v1 := blk_cell hvG (i := 1) rfl; clear hbG hvG))
        have HHF := Aside0.mk (H1.out.below HGG.out)
        clear H1 HB1 HFF HV1 v1 HBF HVF HGG
        go_loopw [43] (fun vi wr => ∃ (t : Nat) (L : List Rt), vi = .int .i64 t ∧ t ≤ os.length ∧ Aside0 (HasR wr p s L) ∧ Aside0 (wr.heap[w.heap.size]? = some (.cells #[.int .i64 ok, .string xo, .int .i64 oa, .int .i64 ob] 31 (0, 0))) ∧ Aside0 (Below w.heap.size w wr)) (fun vi _ => os.length - (nOf vi).toNat)
        case atStart => exact ⟨0, [], rfl, Nat.zero_le _, HHF, HVG, HBG⟩
        case round =>
          obtain ⟨t, L, rfl, ht, HH, HV, HB⟩ := hrel
          clear HHF HBG HVG
          by_cases hlt : t < os.length
          · obtain ⟨⟨k, x, ⟨a, b⟩⟩, hq⟩ : ∃ q, os[t]? = some q := ⟨_, List.getElem?_eq_getElem hlt⟩
            have HX : Aside0 (x.size ≤ 50000) := ⟨by have := HSZ.out _ (List.mem_of_getElem? hq); simp only at this; omega⟩
            obtain ⟨L2, ⟨ha, hb⟩, e0, hr⟩ : ∃ L2 h e0, doE L k x.data.toList (a, b) = (L2, h, e0) := ⟨_, _, _, rfl⟩
            have HDO := Aside0.mk hr
            obtain ⟨ad, hA, x0, x1, x2, x3⟩ := op_at (HO.out.below HB.out) hq
            subst hA
            clear hq hr
            go_wp2_with (go_at_call 14; (with_reducible refine (does_row _ p s L (HH.out.below (below_alloc (Below.refl _ _) _)) k x HX.out a b HDO.out).mono ?_); rintro e w4 ⟨rfl, h4, hf4⟩; have H4 := Aside0.mk h4; have HV4 := Aside0.mk ((HH.out.below (below_alloc (Below.refl _ _) (.cells #[.int .i64 k, .string x, .int .i64 a, .int .i64 b] 31))).sfr hf4 (old_blk HV.out _) (by omega)); have HB4 := Aside0.mk ((below_alloc HB.out (.cells #[.int .i64 k, .string x, .int .i64 a, .int .i64 b] 31)).trans (hf4.below w.heap.size (below_alloc HB.out (.cells #[.int .i64 k, .string x, .int .i64 a, .int .i64 b] 31)).size (fun b hb => by omega))); clear h4 hf4)
            go_roundw
            case rel => exact ⟨t + 1, L2, by go_num, by omega, H4, HV4, HB4⟩
            case measure => simp [nOf]; omega
          · have v1 := blk_cell HV.out (i := 1) rfl
            have v2 := blk_cell HV.out (i := 2) rfl
            have v3 := blk_cell HV.out (i := 3) rfl
            have HSET := Aside0.mk (rset_calls wr p s L HH.out xo HXM.out oa ob)
            rcases setE_cases L xo.data.toList (oa, ob) with ⟨e0, he0, hse⟩ | hse
            · rw [hse] at HSET
              clear hse
              go_wp2_with (first | (go_at_call 16; (with_reducible refine HSET.out.mono ?_); rintro e w5 ⟨rfl, h5, hf5⟩; have HB5 := Aside0.mk (HB.out.trans (hf5.below w.heap.size HB.out.size (fun b hb => by omega))); clear h5 hf5) | (go_at_call 12; (with_reducible refine (aliveR_calls _).mono ?_); rintro e wA ⟨rfl, hbA⟩; have HBA := Aside0.mk (bel_step HB5.out hbA); clear hbA))
              go_ret
              exact ⟨rfl, HBA.out⟩
            · rw [hse] at HSET
              clear hse
              go_wp2_with (go_at_call 16; (with_reducible refine HSET.out.mono ?_); rintro e w5 ⟨rfl, h5, hf5⟩; have HB5 := Aside0.mk (HB.out.trans (hf5.below w.heap.size HB.out.size (fun b hb => by omega))); have H5 := Aside0.mk h5; have HV5 := Aside0.mk (HH.out.sfr hf5 HV.out (by omega)); clear h5 hf5)
              have HGP : Aside0 (getR (putR L xo.data.toList (oa, ob)) xo.data.toList = some (oa, ob)) := ⟨by rw [getR_putR, if_pos rfl]⟩
              generalize putR L xo.data.toList (oa, ob) = L5 at H5 HGP
              clear HH HV HB HSET v1 v2 v3 ht hlt
              go_loopw [61] (fun vi wr => ∃ (t : Nat) (L : List Rt), vi = .int .i64 t ∧ t ≤ ms.length ∧ Aside0 (HasR wr p s L) ∧ Aside0 (wr.heap[w.heap.size]? = some (.cells #[.int .i64 ok, .string xo, .int .i64 oa, .int .i64 ob] 31 (0, 0))) ∧ Aside0 (getR L xo.data.toList = some (oa, ob)) ∧ Aside0 (Below w.heap.size w wr)) (fun vi _ => ms.length - (nOf vi).toNat)
              case atStart => exact ⟨0, L5, rfl, Nat.zero_le _, H5, HV5, HGP, HB5⟩
              case round =>
                obtain ⟨t, L, rfl, ht, HH, HV, HP, HB⟩ := hrel
                clear H5 HV5 HGP HB5
                by_cases hlt : t < ms.length
                · obtain ⟨⟨k, x, ⟨a, b⟩⟩, hq⟩ : ∃ q, ms[t]? = some q := ⟨_, List.getElem?_eq_getElem hlt⟩
                  have HX : Aside0 (x.size ≤ 50000) := ⟨by have := HSM.out _ (List.mem_of_getElem? hq); simp only at this; omega⟩
                  obtain ⟨L2, ⟨ha, hb⟩, e0, hr⟩ : ∃ L2 h e0, doE L k x.data.toList (a, b) = (L2, h, e0) := ⟨_, _, _, rfl⟩
                  have HDO := Aside0.mk hr
                  obtain ⟨ad, hA, x0, x1, x2, x3⟩ := op_at (HM.out.below HB.out) hq
                  subst hA
                  have v1 := cell_alloc (o := .cells #[.int .i64 k, .string x, .int .i64 a, .int .i64 b] 31) (blk_cell HV.out (i := 1) rfl)
                  clear hq hr
                  by_cases hxe : x = xo
                  · subst hxe
                    go_wp2
                    go_roundw
                    case rel => exact ⟨t + 1, L, by go_num, by omega, ⟨HH.out.below (below_alloc (Below.refl _ _) _)⟩, ⟨old_blk HV.out _⟩, HP, ⟨below_alloc HB.out _⟩⟩
                    case measure => simp [nOf]; omega
                  · have HP2 : Aside0 (getR L2 xo.data.toList = some (oa, ob)) := ⟨by
                      have := doE_get HH.out.good.sorted k (nm_data hxe) (a, b)
                      rw [HDO.out] at this
                      exact this.trans HP.out⟩
                    go_wp2_with (go_at_call 14; (with_reducible refine (does_row _ p s L (HH.out.below (below_alloc (Below.refl _ _) _)) k x HX.out a b HDO.out).mono ?_); rintro e w4 ⟨rfl, h4, hf4⟩; have H4 := Aside0.mk h4; have HV4 := Aside0.mk ((HH.out.below (below_alloc (Below.refl _ _) (.cells #[.int .i64 k, .string x, .int .i64 a, .int .i64 b] 31))).sfr hf4 (old_blk HV.out _) (by omega)); have HB4 := Aside0.mk ((below_alloc HB.out (.cells #[.int .i64 k, .string x, .int .i64 a, .int .i64 b] 31)).trans (hf4.below w.heap.size (below_alloc HB.out (.cells #[.int .i64 k, .string x, .int .i64 a, .int .i64 b] 31)).size (fun b hb => by omega))); clear h4 hf4)
                    go_roundw
                    case rel => exact ⟨t + 1, L2, by go_num, by omega, H4, HV4, HP2, HB4⟩
                    case measure => simp [nOf]; omega
                    have hxn : (x.toList == xo.toList) = false := beq_false_of_ne (by rw [ba_list, ba_list]; exact nm_data hxe)
                    exact absurd ‹(!x.toList == xo.toList) = false› (by rw [hxn]; decide)
                · obtain ⟨g1, g2, g3⟩ := clearE_get HH.out.good.sorted HP.out
                  have G1 := Aside0.mk g1
                  have G2 := Aside0.mk g2
                  have G3 := Aside0.mk g3
                  have v1 := blk_cell HV.out (i := 1) rfl
                  clear g1 g2 g3
                  have HCL := Aside0.mk (fun (W : World) (hW : HasR W p s L) => show Calls Try.prog 18 #[.pointer (some ⟨p, 0, none⟩), .string xo] W (fun e w' => e = .returned (.int .i64 0) ∧ HasR w' p s (delR L xo.data.toList) ∧ Fr (fun b => b = s) W w') from by
                    have := rclear_calls W p s L hW xo HXM.out
                    rw [G2.out] at this
                    exact this)
                  go_wp2_with (first | (go_at_call 17; (with_reducible refine (rget_at wr p s L HH.out xo HXM.out oa ob 0 G1.out).mono ?_); rintro e w6 ⟨rfl, hb6⟩; have hv6 := old_blk ((hb6.block w.heap.size (blk_lt HV.out)).trans HV.out) (.cells #[.int .i64 oa, .int .i64 ob] 29); have HV6 := Aside0.mk hv6; have v1 := blk_cell hv6 (i := 1) rfl; have H6 := Aside0.mk ((HH.out.below hb6).below (below_alloc (Below.refl w6.heap.size w6) (.cells #[.int .i64 oa, .int .i64 ob] 29))); have HB6 := Aside0.mk (below_alloc (bel_step HB.out hb6) (.cells #[.int .i64 oa, .int .i64 ob] 29)); have HSL := Aside0.mk (show s < w6.heap.size from Nat.lt_of_lt_of_le HH.out.s_lt hb6.size); clear hb6 hv6) | (go_at_call 18; (with_reducible refine (HCL.out _ H6.out).mono ?_); rintro e w7 ⟨rfl, h7, hf7⟩; have hv7 := H6.out.sfr hf7 HV6.out (by omega); have hz7 := H6.out.sfr hf7 (heap_alloc_new w6 (.cells #[.int .i64 oa, .int .i64 ob] 29)) (by have := HSL.out; omega); have HV7 := Aside0.mk hv7; have HZ7 := Aside0.mk hz7; have v1 := blk_cell hv7 (i := 1) rfl; have H7 := Aside0.mk h7; have HB7 := Aside0.mk (HB6.out.trans (hf7.below w.heap.size HB6.out.size (fun b hb => by omega))); clear h7 hf7 hv7 hz7) | (go_at_call 17; (with_reducible refine (rget_at w7 p s _ H7.out xo HXM.out 0 0 130 G3.out).mono ?_); rintro e w8 ⟨rfl, hb8⟩; have HV8 := Aside0.mk (old_blk ((hb8.block w.heap.size (blk_lt HV7.out)).trans HV7.out) (.cells #[.int .i64 0, .int .i64 0] 29)); have HZ8 := Aside0.mk (old_blk ((hb8.block w6.heap.size (blk_lt HZ7.out)).trans HZ7.out) (.cells #[.int .i64 0, .int .i64 0] 29)); have HB8 := Aside0.mk (below_alloc (bel_step HB7.out hb8) (.cells #[.int .i64 0, .int .i64 0] 29)); clear hb8) | (go_at_call 12; (with_reducible refine (aliveR_calls _).mono ?_); rintro e wA ⟨rfl, hbA⟩; have hvA := (hbA.block w.heap.size (blk_lt HV8.out)).trans HV8.out; have hzA := (hbA.block w6.heap.size (blk_lt HZ8.out)).trans HZ8.out; have v2 := blk_cell hvA (i := 2) rfl; have v3 := blk_cell hvA (i := 3) rfl; have z0 := blk_cell hzA (i := 0) rfl; have z1 := blk_cell hzA (i := 1) rfl; have HBA := Aside0.mk (bel_step HB8.out hbA); clear hbA hvA hzA)
                    )
                  go_ret
                  exact ⟨rfl, HBA.out⟩
end Go.Proofs.Ytliclajcifeneaa.Hand
