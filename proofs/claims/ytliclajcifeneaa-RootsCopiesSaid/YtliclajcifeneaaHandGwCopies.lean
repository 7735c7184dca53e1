/- RootsCopies, walked. -/
import Derived.Test.YtliclajcifeneaaHandGB1
import Derived.Test.YtliclajcifeneaaHandGR1
import Derived.Test.YtliclajcifeneaaHandGS1
import Derived.Test.YtliclajcifeneaaHandGT1
import Derived.Test.YtliclajcifeneaaHandGT2
namespace Go.Proofs.Ytliclajcifeneaa.Hand
open Go.RowKit Go.Maps Go.Sort Go.Shelf Go.Proofs.YtliclajcifeneaaW.PrintWords Go.Proofs.Ytliclajcifeneaa.PHandRR
attribute [local go_sem high] eqA29
set_option linter.unusedVariables false
set_option linter.unusedSimpArgs false
set_option maxRecDepth 100000 in
set_option maxHeartbeats 4000000 in
theorem rootsCopies_walk (B : Option Addr) (d : Nat) (os : List S31) (B2 : Option Addr) (d2 : Nat) (ms : List S31) (w : World) (ho : OpsR w B d os) (hm : OpsR w B2 d2 ms) :
    Calls Try.prog 8 #[.slice B os.length d, .slice B2 ms.length d2] w fun e w' => e = .returned (.bool true) ∧ Below w.heap.size w w' := by
  have hu29 := Try.underlying29
  have hu31 := Try.underlying31
  have HO := Aside0.mk ho
  have HM := Aside0.mk hm
  have hln := ho.len
  have hlm := hm.len
  cases hf : fewR os with
  | false =>
    have HF := Aside0.mk hf
    clear ho hf hm
    go_enter Try.func8, Try.ntmps8
    go_wp2_with (first | (go_at_call 10; (with_reducible refine (rnew_calls w).mono ?_); rintro e w1 ⟨p, s, rfl, h1, hb1, hp1, hs1⟩; have H1 := Aside0.mk h1; have HB1 := Aside0.mk hb1; clear h1 hb1) | (go_at_call 11; (with_reducible refine (few_row _ B d os (HO.out.below HB1.out)).mono ?_); rw [HF.out]; rintro e wF ⟨rfl, hbF⟩; have HBF := Aside0.mk (bel_step HB1.out hbF); have HFF := Aside0.mk hbF; clear hbF) | (go_at_call 12; (with_reducible refine (aliveR_calls _).mono ?_); rintro e wA ⟨rfl, hbA⟩; have HBA := Aside0.mk (bel_step HBF.out hbA); clear hbA))
    go_ret
    exact ⟨rfl, HBA.out⟩
  | true =>
    have HF := Aside0.mk hf
    cases hg : fewR ms with
    | false =>
      have HG := Aside0.mk hg
      clear ho hf hm hg
      go_enter Try.func8, Try.ntmps8
      go_wp2_with (first | (go_at_call 10; (with_reducible refine (rnew_calls w).mono ?_); rintro e w1 ⟨p, s, rfl, h1, hb1, hp1, hs1⟩; have H1 := Aside0.mk h1; have HB1 := Aside0.mk hb1; clear h1 hb1) | (go_at_call 11; (with_reducible refine (few_row _ B d os (HO.out.below HB1.out)).mono ?_); rw [HF.out]; rintro e wF ⟨rfl, hbF⟩; have HBF := Aside0.mk (bel_step HB1.out hbF); have HFF := Aside0.mk hbF; clear hbF) | (go_at_call 11; (with_reducible refine (few_row _ B2 d2 ms (HM.out.below HBF.out)).mono ?_); rw [HG.out]; rintro e wG ⟨rfl, hbG⟩; have HBG := Aside0.mk (bel_step HBF.out hbG); have HGG := Aside0.mk (bel_step HFF.out hbG); clear hbG) | (go_at_call 12; (with_reducible refine (aliveR_calls _).mono ?_); rintro e wA ⟨rfl, hbA⟩; have HBA := Aside0.mk (bel_step HBG.out hbA); clear hbA))
      go_ret
      exact ⟨rfl, HBA.out⟩
    | true =>
      have HG := Aside0.mk hg
      obtain ⟨hl100, hsz⟩ := fewR_yes hf
      obtain ⟨hm100, hsm⟩ := fewR_yes hg
      have HSZ := Aside0.mk hsz
      have HSM := Aside0.mk hsm
      clear ho hf hm hg hsz hsm
      go_enter Try.func8, Try.ntmps8
      go_wp2_with (first | (go_at_call 10; (with_reducible refine (rnew_calls w).mono ?_); rintro e w1 ⟨p, s, rfl, h1, hb1, hp1, hs1⟩; have H1 := Aside0.mk h1; have HB1 := Aside0.mk hb1; clear h1 hb1) | (go_at_call 11; (with_reducible refine (few_row _ B d os (HO.out.below HB1.out)).mono ?_); rw [HF.out]; rintro e wF ⟨rfl, hbF⟩; have HBF := Aside0.mk (bel_step HB1.out hbF); have HFF := Aside0.mk hbF; clear hbF) | (go_at_call 11; (with_reducible refine (few_row _ B2 d2 ms (HM.out.below HBF.out)).mono ?_); rw [HG.out]; rintro e wG ⟨rfl, hbG⟩; have HBG := Aside0.mk (bel_step HBF.out hbG); have HGG := Aside0.mk (bel_step HFF.out hbG); clear hbG))
      have HHF := Aside0.mk (H1.out.below HGG.out)
      clear H1 HB1 HFF HBF HGG
      go_loopw [32] (fun vi wr => ∃ (t : Nat) (L : List Rt), vi = .int .i64 t ∧ t ≤ os.length ∧ Aside0 (HasR wr p s L) ∧ Aside0 (Below w.heap.size w wr)) (fun vi _ => os.length - (nOf vi).toNat)
      case atStart => exact ⟨0, [], rfl, Nat.zero_le _, HHF, HBG⟩
      case round =>
        obtain ⟨t, L, rfl, ht, HH, HB⟩ := hrel
        clear HHF HBG
        by_cases hlt : t < os.length
        · obtain ⟨⟨k, x, ⟨a, b⟩⟩, hq⟩ : ∃ q, os[t]? = some q := ⟨_, List.getElem?_eq_getElem hlt⟩
          have HX : Aside0 (x.size ≤ 50000) := ⟨by have := HSZ.out _ (List.mem_of_getElem? hq); simp only at this; omega⟩
          obtain ⟨L2, ⟨ha, hb⟩, e0, hr⟩ : ∃ L2 h e0, doE L k x.data.toList (a, b) = (L2, h, e0) := ⟨_, _, _, rfl⟩
          have HDO := Aside0.mk hr
          obtain ⟨ad, hA, x0, x1, x2, x3⟩ := op_at (HO.out.below HB.out) hq
          subst hA
          clear hq hr
          go_wp2_with (go_at_call 14; (with_reducible refine (does_row _ p s L (HH.out.below (below_alloc (Below.refl _ _) _)) k x HX.out a b HDO.out).mono ?_); rintro e w4 ⟨rfl, h4, hf4⟩; have H4 := Aside0.mk h4; have HB4 := Aside0.mk ((below_alloc HB.out (.cells #[.int .i64 k, .string x, .int .i64 a, .int .i64 b] 31)).trans (hf4.below w.heap.size (below_alloc HB.out (.cells #[.int .i64 k, .string x, .int .i64 a, .int .i64 b] 31)).size (fun b hb => by omega))); clear h4 hf4)
          go_roundw
          case rel => exact ⟨t + 1, L2, by go_num, by omega, H4, HB4⟩
          case measure => simp [nOf]; omega
        · go_wp2_with (first | (go_at_call 21; (with_reducible refine (renc_calls _ p s L HH.out).mono ?_); rintro e w5 ⟨u5, rfl, hr5, hb5⟩; have hcv5 := conv_own hr5; have H5 := Aside0.mk (HH.out.below hb5); have HB5 := Aside0.mk (bel_step HB.out hb5); clear hr5 hb5) | (go_at_call 22; (with_reducible refine (rcopy_calls w5 p s L H5.out).mono ?_); rintro e w6 ⟨p2, s2, rfl, k6, hb6, hp2, hs2⟩; have K6 := Aside0.mk k6; have H6 := Aside0.mk (H5.out.below hb6); have hp5 := H5.out.p_lt; have hs5 := H5.out.s_lt; have HB6 := Aside0.mk (bel_step HB5.out hb6); clear k6 hb6) | (go_at_call 21; (with_reducible refine (renc_calls _ p2 s2 L K6.out).mono ?_); rintro e w7 ⟨u7, rfl, hr7, hb7⟩; have hcv7 := conv_own hr7; have H7 := Aside0.mk (H6.out.below hb7); have K7 := Aside0.mk (K6.out.below hb7); have HB7 := Aside0.mk (bel_step HB6.out hb7); clear hr7 hb7))
          clear HH HB H5 HB5 H6 K6 HB6 hcv5 hcv7 hlt ht
          go_loopw [56] (fun vi wr => ∃ (t : Nat) (M : List Rt), vi = .int .i64 t ∧ t ≤ ms.length ∧ Aside0 (HasR wr p s L) ∧ Aside0 (HasR wr p2 s2 M) ∧ Aside0 (Below w.heap.size w wr)) (fun vi _ => ms.length - (nOf vi).toNat)
          case atStart => exact ⟨0, L, rfl, Nat.zero_le _, H7, K7, HB7⟩
          case round =>
            obtain ⟨t, M, rfl, ht, HH, HK, HB⟩ := hrel
            clear H7 K7 HB7
            by_cases hlt : t < ms.length
            · obtain ⟨⟨k, x, ⟨a, b⟩⟩, hq⟩ : ∃ q, ms[t]? = some q := ⟨_, List.getElem?_eq_getElem hlt⟩
              have HX : Aside0 (x.size ≤ 50000) := ⟨by have := HSM.out _ (List.mem_of_getElem? hq); simp only at this; omega⟩
              obtain ⟨M2, ⟨ha, hb⟩, e0, hr⟩ : ∃ L2 h e0, doE M k x.data.toList (a, b) = (L2, h, e0) := ⟨_, _, _, rfl⟩
              have HDO := Aside0.mk hr
              obtain ⟨ad, hA, x0, x1, x2, x3⟩ := op_at (HM.out.below HB.out) hq
              subst hA
              clear hq hr
              go_wp2_with (go_at_call 14; (with_reducible refine (does_row _ p2 s2 M (HK.out.below (below_alloc (Below.refl _ _) _)) k x HX.out a b HDO.out).mono ?_); rintro e w4 ⟨rfl, h4, hf4⟩; have K4 := Aside0.mk h4; have H4 := Aside0.mk ((HH.out.below (below_alloc (Below.refl _ _) (.cells #[.int .i64 k, .string x, .int .i64 a, .int .i64 b] 31))).fr hf4 (by omega) (by omega)); have HB4 := Aside0.mk ((below_alloc HB.out (.cells #[.int .i64 k, .string x, .int .i64 a, .int .i64 b] 31)).trans (hf4.below w.heap.size (below_alloc HB.out (.cells #[.int .i64 k, .string x, .int .i64 a, .int .i64 b] 31)).size (fun b hb => by omega))); clear h4 hf4)
              go_roundw
              case rel => exact ⟨t + 1, M2, by go_num, by omega, H4, K4, HB4⟩
              case measure => simp [nOf]; omega
            · go_wp2_with (first | (go_at_call 12; (with_reducible refine (aliveR_calls _).mono ?_); rintro e wA ⟨rfl, hbA⟩; have HA := Aside0.mk (HH.out.below hbA); have HBA := Aside0.mk (bel_step HB.out hbA); clear hbA) | (go_at_call 21; (with_reducible refine (renc_calls _ p s L HA.out).mono ?_); rintro e w9 ⟨u9, rfl, hr9, hb9⟩; have hcv9 := conv_own hr9; have HB9 := Aside0.mk (bel_step HBA.out hb9); clear hr9 hb9))
              go_ret
              exact ⟨rfl, HB9.out⟩
end Go.Proofs.Ytliclajcifeneaa.Hand
