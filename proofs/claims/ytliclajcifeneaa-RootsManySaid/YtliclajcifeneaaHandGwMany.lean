/- RootsMany, walked. -/
import Derived.Laws.Cover1
import Derived.Test.YtliclajcifeneaaHandGB1
import Derived.Test.YtliclajcifeneaaHandGR1
import Derived.Test.YtliclajcifeneaaHandGS1
import Derived.Test.YtliclajcifeneaaHandGT1
import Derived.Test.YtliclajcifeneaaHandGT2
namespace Go.Proofs.Ytliclajcifeneaa.Hand
open Go.RowKit Go.Maps Go.Sort Go.Shelf Go.Proofs.YtliclajcifeneaaW.PrintWords Go.Proofs.Ytliclajcifeneaa.PHandRR
attribute [local go_sem high] eqA29
set_option linter.unusedVariables false
set_option linter.unusedSimpArgs false
theorem pk_gen {c : Int × Int} (h : pk c ≠ 0) : pk c % 65536 ≠ 0 := by
  by_cases hc : 0 ≤ c.1 ∧ c.1 < 65536 ∧ 1 ≤ c.2 ∧ c.2 ≤ 65535
  · rw [pk, packM_yes hc]
    omega
  · exact absurd (packM_no hc) h
/-- Handles rise. -/
theorem hs_rise {L : List Rt} (hg : GoodR L) {t : Nat} {x y : S29} (hx : (hsS (hsL L))[t]? = some x) (hy : (hsS (hsL L))[t + 1]? = some y) : x.f0 < y.f0 ∨ (x.f0 = y.f0 ∧ x.f1 < y.f1) := by
  simp only [hsS, List.getElem?_map, Option.map_eq_some_iff] at hx hy
  obtain ⟨m, hm, rfl⟩ := hx
  obtain ⟨n, hn, rfl⟩ := hy
  have hlt := (asc_get (hsL_asc L) hm hn).1 (by omega)
  obtain ⟨q, hq, rfl⟩ := (hsL_iff L m).1 (List.mem_of_getElem? hm)
  obtain ⟨r, hr, rfl⟩ := (hsL_iff L n).1 (List.mem_of_getElem? hn)
  obtain ⟨_, u1⟩ := pk_range q.2
  obtain ⟨_, u2⟩ := pk_range r.2
  have e1 := pk_gen (hg.each q hq).2
  have e2 := pk_gen (hg.each r hr).2
  simp only [unpackM, if_pos (And.intro u1 e1), if_pos (And.intro u2 e2)]
  omega
set_option maxRecDepth 100000 in
set_option maxHeartbeats 4000000 in
theorem rootsMany_walk (B : Option Addr) (d : Nat) (os : List S31) (w : World) (ho : OpsR w B d os) :
    Calls Try.prog 5 #[.slice B os.length d] w fun e w' => e = .returned (.bool true) ∧ Below w.heap.size w w' := by
  have hu29 := Try.underlying29
  have hu31 := Try.underlying31
  have HO := Aside0.mk ho
  have hln := ho.len
  cases hf : fewR os with
  | false =>
    have HF := Aside0.mk hf
    clear ho hf
    go_enter Try.func5, Try.ntmps5
    go_wp2_with (first | (go_at_call 10; (with_reducible refine (rnew_calls w).mono ?_); rintro e w1 ⟨p, s, rfl, h1, hb1, hp1, hs1⟩; have H1 := Aside0.mk h1; have HB1 := Aside0.mk hb1; clear h1 hb1) | (go_at_call 11; (with_reducible refine (few_row _ B d os (HO.out.below HB1.out)).mono ?_); rw [HF.out]; rintro e wF ⟨rfl, hbF⟩; have HBF := Aside0.mk (bel_step HB1.out hbF); have HFF := Aside0.mk hbF; clear hbF) | (go_at_call 12; (with_reducible refine (aliveR_calls _).mono ?_); rintro e wA ⟨rfl, hbA⟩; have HBA := Aside0.mk (bel_step HBF.out hbA); clear hbA))
    go_ret
    exact ⟨rfl, HBA.out⟩
  | true =>
    have HF := Aside0.mk hf
    obtain ⟨hl100, hsz⟩ := fewR_yes hf
    have HSZ := Aside0.mk hsz
    clear ho hf hsz
    go_enter Try.func5, Try.ntmps5
    go_wp2_with (first | (go_at_call 10; (with_reducible refine (rnew_calls w).mono ?_); rintro e w1 ⟨p, s, rfl, h1, hb1, hp1, hs1⟩; have H1 := Aside0.mk h1; have HB1 := Aside0.mk hb1; clear h1 hb1) | (go_at_call 11; (with_reducible refine (few_row _ B d os (HO.out.below HB1.out)).mono ?_); rw [HF.out]; rintro e wF ⟨rfl, hbF⟩; have HBF := Aside0.mk (bel_step HB1.out hbF); have HFF := Aside0.mk hbF; clear hbF))
    have HHF := Aside0.mk (H1.out.below HFF.out)
    clear H1 HB1 HFF
    go_loopw [25] (fun vi wr => ∃ (t : Nat) (L : List Rt), vi = .int .i64 t ∧ t ≤ os.length ∧ Aside0 (HasR wr p s L) ∧ Aside0 (Below w.heap.size w wr)) (fun vi _ => os.length - (nOf vi).toNat)
    case atStart => exact ⟨0, [], rfl, Nat.zero_le _, HHF, HBF⟩
    case round =>
      obtain ⟨t, L, rfl, ht, HH, HB⟩ := hrel
      clear HHF HBF
      by_cases hlt : t < os.length
      · obtain ⟨⟨k, x, ⟨a, b⟩⟩, hq⟩ : ∃ q, os[t]? = some q := ⟨_, List.getElem?_eq_getElem hlt⟩
        have HX : Aside0 (x.size ≤ 50000) := ⟨by have := HSZ.out _ (List.mem_of_getElem? hq); simp only at this; omega⟩
        obtain ⟨L2, ⟨ha, hb⟩, e0, hr⟩ : ∃ L2 h e0, doE L k x.data.toList (a, b) = (L2, h, e0) := ⟨_, _, _, rfl⟩
        have HDO := Aside0.mk hr
        obtain ⟨ad, hA, x0, x1, x2, x3⟩ := op_at (HO.out.below HB.out) hq
        subst hA
        clear hq hr
        go_wp2_with (first | (go_at_call 14; (with_reducible refine (does_row _ p s L (HH.out.below (below_alloc (Below.refl _ _) _)) k x HX.out a b HDO.out).mono ?_); rintro e w4 ⟨rfl, h4, hf4⟩; have hfew := h4.good.few; have H4 := Aside0.mk h4; have HB4 := Aside0.mk ((below_alloc HB.out (.cells #[.int .i64 k, .string x, .int .i64 a, .int .i64 b] 31)).trans (hf4.below w.heap.size (below_alloc HB.out (.cells #[.int .i64 k, .string x, .int .i64 a, .int .i64 b] 31)).size (fun b hb => by omega))); clear h4 hf4) | (go_at_call 19; (with_reducible refine (names_calls _ p s L2 H4.out).mono ?_); rintro e w5 ⟨un, rfl, hr5, hb5⟩; obtain ⟨A5, c5, hv5, _, _⟩ := Kd.R_reads hr5; rw [names_len] at hv5; subst hv5; have HN5 := Aside0.mk hr5; have H5 := Aside0.mk (H4.out.below hb5); have HB5 := Aside0.mk (bel_step HB4.out hb5); clear hr5 hb5) | (go_at_call 20; (with_reducible refine (handles_calls _ p s L2 H5.out).mono ?_); rintro e w6 ⟨uh, rfl, hr6, hb6⟩; obtain ⟨A6, c6, hv6, _, hC6⟩ := Kd.R_reads hr6; subst hv6; have hhl : (hsS (hsL L2)).length ≤ L2.length := (by rw [hsS, List.length_map]; exact hsL_len L2); have HC6 := Aside0.mk hC6; have HN6 := Aside0.mk (Kd.R_below HN5.out hb6); have H6 := Aside0.mk (H5.out.below hb6); have HB6 := Aside0.mk (bel_step HB5.out hb6); clear hr6 hb6 hC6))
        clear H4 HB4 HN5 H5 HB5 HH HB HDO
        have hrise := Aside0.mk (fun (t : Nat) (x y : S29) => hs_rise H6.out.good (t := t) (x := x) (y := y))
        generalize hsS (hsL L2) = hs at HC6 hrise hhl
        go_loopw [8] (fun vi wr => ∃ (j : Nat), vi = .int .i64 j ∧ 1 ≤ j ∧ (j ≤ L2.length ∨ j = 1) ∧ Aside0 (HasR wr p s L2) ∧ Aside0 (Kd.R Kd.string 9 wr w4.heap.size (fun _ => True) (.slice A5 L2.length c5) (namesB L2)) ∧ Aside0 (Kd.C k29 wr A6 hs.length hs) ∧ Aside0 (Below w.heap.size w wr)) (fun vi _ => L2.length - (nOf vi).toNat)
        case atStart => exact ⟨1, rfl, Nat.le_refl _, .inr rfl, H6, HN6, HC6, HB6⟩
        case round =>
          obtain ⟨j, rfl, hj1, hj, HH, HN, HC, HB⟩ := hrel
          clear H6 HN6 HC6 HB6
          by_cases hlj : j < L2.length
          · obtain ⟨i, hi⟩ : ∃ i, j = i + 1 := ⟨j - 1, by omega⟩
            have hli : i < L2.length := by omega
            obtain ⟨q0, hq0⟩ : ∃ q, L2[i]? = some q := ⟨_, List.getElem?_eq_getElem hli⟩
            obtain ⟨q1, hq1⟩ : ∃ q, L2[j]? = some q := ⟨_, List.getElem?_eq_getElem hlj⟩
            have hlt01 : q0.1 < q1.1 := by
              have := HH.out.good.sorted
              rw [SortedR, List.pairwise_iff_getElem] at this
              have h := this i j hli hlj (by omega)
              rw [List.getElem?_eq_getElem hli] at hq0
              rw [List.getElem?_eq_getElem hlj] at hq1
              rw [Option.some.inj hq0, Option.some.inj hq1] at h
              exact h
            obtain ⟨gn, rfl, hgn, x0⟩ := str_cell HN.out (names_get hq0)
            obtain ⟨gn2, e2, _, x1⟩ := str_cell HN.out (names_get hq1)
            obtain rfl : gn = gn2 := by simpa using e2
            have hsub : (j : Int) - 1 = (i : Int) := by omega
            have hwi : IntKind.i64.wrap (i : Int) = (i : Int) := IntWalk.i64_in _ (by omega)
            have hbl : Op.bytesLess q1.1 q0.1 = false := by rw [bytesLess_nm]; exact decide_eq_false (nm_asymm hlt01)
            have hbe : (q1.1 == q0.1) = false := beq_false_of_ne (nm_ne hlt01).symm
            clear e2 hq0 hq1 hlt01 hi
            go_wp2
            go_quiet (fail)
            go_wp2
            go_roundw
            case rel => exact ⟨j + 1, by go_num, by omega, by omega, ⟨HH.out.below (pw_below_drewN (Below.refl _ _) nq)⟩, ⟨Kd.R_drewN HN.out nq⟩, ⟨Kd.C_drewN HC.out nq⟩, ⟨pw_below_drewN HB.out nq⟩⟩
            case measure => simp [nOf]; omega
          · go_wp2
            clear HN hj hlj hj1
            go_loopw [9] (fun vi wr => ∃ (j : Nat), vi = .int .i64 j ∧ 1 ≤ j ∧ (j ≤ hs.length ∨ j = 1) ∧ Aside0 (HasR wr p s L2) ∧ Aside0 (Kd.C k29 wr A6 hs.length hs) ∧ Aside0 (Below w.heap.size w wr)) (fun vi _ => hs.length - (nOf vi).toNat)
            case atStart => exact ⟨1, rfl, Nat.le_refl _, .inr rfl, HH, HC, HB⟩
            case round =>
              obtain ⟨j, rfl, hj1, hj, HH, HC, HB⟩ := hrel
              by_cases hlj : j < hs.length
              · obtain ⟨i, hi⟩ : ∃ i, j = i + 1 := ⟨j - 1, by omega⟩
                have hli : i < hs.length := by omega
                obtain ⟨⟨a0, b0⟩, hq0⟩ : ∃ q, hs[i]? = some q := ⟨_, List.getElem?_eq_getElem hli⟩
                obtain ⟨⟨a1, b1⟩, hq1⟩ : ∃ q, hs[j]? = some q := ⟨_, List.getElem?_eq_getElem hlj⟩
                obtain ⟨ad6, e1, x0, y0⟩ := at_T29 HC.out (i : Int) (by omega) (by omega)
                obtain ⟨ad7, e2, x1, y1⟩ := at_T29 HC.out (j : Int) (by omega) (by omega)
                rw [show rd_T29 hs (i : Int) = ⟨a0, b0⟩ by simp [rd_T29, List.getD_eq_getElem?_getD, hq0], Int.toNat_natCast] at x0 y0
                rw [show rd_T29 hs (j : Int) = ⟨a1, b1⟩ by simp [rd_T29, List.getD_eq_getElem?_getD, hq1], Int.toNat_natCast] at x1 y1
                subst e1
                obtain rfl : ad6 = ad7 := Option.some.inj e2
                have hsub : (j : Int) - 1 = (i : Int) := by omega
                have hwi : IntKind.i64.wrap (i : Int) = (i : Int) := IntWalk.i64_in _ (by omega)
                rw [hi] at hq1
                have hr := hrise.out i _ _ hq0 hq1
                simp only at hr x0 x1 y0 y1
                clear e2 hq0 hq1 hi
                rcases hr with hr | ⟨rfl, hr⟩
                · have h1 : (a1 < a0) = False := eq_false (by omega)
                  have h2 : (a1 = a0) = False := eq_false (by omega)
                  go_wp2
                  go_quiet (fail)
                  go_wp2
                  go_roundw
                  case rel => exact ⟨j + 1, by go_num, by omega, by omega, ⟨HH.out.below (pw_below_drewN (Below.refl _ _) nq)⟩, ⟨Kd.C_drewN HC.out nq⟩, ⟨pw_below_drewN HB.out nq⟩⟩
                  case measure => simp [nOf]; omega
                · have h1 : (a0 < a0) = False := eq_false (by omega)
                  have h3 : (b1 ≤ b0) = False := eq_false (by omega)
                  go_wp2
                  go_quiet (fail)
                  go_wp2
                  go_roundw
                  case rel => exact ⟨j + 1, by go_num, by omega, by omega, ⟨HH.out.below (pw_below_drewN (Below.refl _ _) nq)⟩, ⟨Kd.C_drewN HC.out nq⟩, ⟨pw_below_drewN HB.out nq⟩⟩
                  case measure => simp [nOf]; omega
              · go_wp2
                go_roundw
                case rel => exact ⟨t + 1, L2, by go_num, by omega, HH, HB⟩
                case measure => simp [nOf]; omega
      · go_wp2_with (go_at_call 12; (with_reducible refine (aliveR_calls _).mono ?_); rintro e wA ⟨rfl, hbA⟩; have HBA := Aside0.mk (bel_step HB.out hbA); clear hbA)
        go_ret
        exact ⟨rfl, HBA.out⟩
end Go.Proofs.Ytliclajcifeneaa.Hand
