/- RootsHeld, walked. -/
import Derived.Test.YtliclajcifeneaaHandGB1
import Derived.Test.YtliclajcifeneaaHandGR1
import Derived.Test.YtliclajcifeneaaHandGS1
import Derived.Test.YtliclajcifeneaaHandGT1
import Derived.Test.YtliclajcifeneaaHandGT2
namespace Go.Proofs.Ytliclajcifeneaa.Hand
open Go.RowKit Go.Maps Go.Sort Go.Shelf Go.Proofs.YtliclajcifeneaaW.PrintWords Go.Proofs.Ytliclajcifeneaa.PHandRR
attribute [local go_sem high] eqA29
set_option linter.unusedVariables false
set_option linter.unusedSimpArgs false
def hasB (c : Int × Int) (L : List Rt) : Bool := L.any fun q => q.2.1 == c.1 && q.2.2 == c.2
theorem hasB_take {c : Int × Int} {L : List Rt} {t : Nat} {q : Rt} (h : L[t]? = some q) : hasB c (L.take (t + 1)) = (hasB c (L.take t) || (q.2.1 == c.1 && q.2.2 == c.2)) := by
  rw [List.take_add_one, h, hasB, List.any_append]
  simp [hasB]
def hasH (c : Int × Int) (L : List S29) : Bool := L.any fun q => q.f0 == c.1 && q.f1 == c.2
theorem hasH_take {c : Int × Int} {L : List S29} {t : Nat} {q : S29} (h : L[t]? = some q) : hasH c (L.take (t + 1)) = (hasH c (L.take t) || (q.f0 == c.1 && q.f1 == c.2)) := by
  rw [List.take_add_one, h, hasH, List.any_append]
  simp [hasH]
theorem has_same {L : List Rt} (hg : GoodR L) (c : Int × Int) : hasB c L = hasH c (hsS (hsL L)) := by
  rw [Bool.eq_iff_iff]
  simp only [hasB, hasH, List.any_eq_true, Bool.and_eq_true, beq_iff_eq]
  constructor
  · rintro ⟨q, hq, e1, e2⟩
    refine ⟨⟨(unpackM (pk q.2)).1, (unpackM (pk q.2)).2⟩, List.mem_map.2 ⟨pk q.2, (hsL_iff L _).2 ⟨q, hq, rfl⟩, rfl⟩, ?_⟩
    rw [pk, unpack_pk _ _ (hg.each q hq).2]
    exact ⟨e1, e2⟩
  · rintro ⟨x, hx, e1, e2⟩
    obtain ⟨n, hn, rfl⟩ := List.mem_map.1 hx
    obtain ⟨q, hq, rfl⟩ := (hsL_iff L n).1 hn
    rw [pk, unpack_pk _ _ (hg.each q hq).2] at e1 e2
    exact ⟨q, hq, e1, e2⟩
set_option maxRecDepth 100000 in
set_option maxHeartbeats 4000000 in
theorem rootsHeld_walk (B : Option Addr) (d : Nat) (os : List S31) (oa ob : Int) (w : World) (ho : OpsR w B d os) (wa : (Lit.int .i64 oa).wf = true) (wb : (Lit.int .i64 ob).wf = true) :
    Calls Try.prog 7 #[.slice B os.length d, .agg #[.int .i64 oa, .int .i64 ob]] w fun e w' => e = .returned (.bool true) ∧ Below w.heap.size w w' := by
  have hu29 := Try.underlying29
  have hu31 := Try.underlying31
  have HO := Aside0.mk ho
  have hln := ho.len
  clear wa wb
  cases hf : fewR os with
  | false =>
    have HF := Aside0.mk hf
    clear ho hf
    go_enter Try.func7, Try.ntmps7
    go_wp2_with (first | (go_at_call 10; (with_reducible refine (rnew_calls _).mono ?_); rintro e w1 ⟨p, s, rfl, h1, hb1, hp1, hs1⟩; rw [World.size_alloc] at hp1 hs1; have H1 := Aside0.mk h1; have HB1 := Aside0.mk (bel_step (below_alloc (Below.refl w.heap.size w) _) hb1); have HV1 := Aside0.mk ((hb1.block w.heap.size (by rw [World.size_alloc]; omega)).trans (heap_alloc_new w _)); clear h1 hb1) | (go_at_call 11; (with_reducible refine (few_row _ B d os (HO.out.below HB1.out)).mono ?_); rw [HF.out]; rintro e wF ⟨rfl, hbF⟩; have HBF := Aside0.mk (bel_step HB1.out hbF); have HFF := Aside0.mk hbF; have HVF := Aside0.mk ((hbF.block w.heap.size (blk_lt HV1.out)).trans HV1.out); clear hbF) | (go_at_call 12; (with_reducible refine (aliveR_calls _).mono ?_); rintro e wA ⟨rfl, hbA⟩; have HBA := Aside0.mk (bel_step HBF.out hbA); clear hbA))
    go_ret
    exact ⟨rfl, HBA.out⟩
  | true =>
    have HF := Aside0.mk hf
    obtain ⟨hl100, hsz⟩ := fewR_yes hf
    have HSZ := Aside0.mk hsz
    clear ho hf hsz
    go_enter Try.func7, Try.ntmps7
    go_wp2_with (first | (go_at_call 10; (with_reducible refine (rnew_calls _).mono ?_); rintro e w1 ⟨p, s, rfl, h1, hb1, hp1, hs1⟩; rw [World.size_alloc] at hp1 hs1; have H1 := Aside0.mk h1; have HB1 := Aside0.mk (bel_step (below_alloc (Below.refl w.heap.size w) _) hb1); have HV1 := Aside0.mk ((hb1.block w.heap.size (by rw [World.size_alloc]; omega)).trans (heap_alloc_new w _)); clear h1 hb1) | (go_at_call 11; (with_reducible refine (few_row _ B d os (HO.out.below HB1.out)).mono ?_); rw [HF.out]; rintro e wF ⟨rfl, hbF⟩; have HBF := Aside0.mk (bel_step HB1.out hbF); have HFF := Aside0.mk hbF; have HVF := Aside0.mk ((hbF.block w.heap.size (blk_lt HV1.out)).trans HV1.out); clear hbF))
    have HHF := Aside0.mk (H1.out.below HFF.out)
    clear H1 HB1 HFF HV1
    go_loopw [31] (fun vi wr => ∃ (t : Nat) (L : List Rt), vi = .int .i64 t ∧ t ≤ os.length ∧ Aside0 (HasR wr p s L) ∧ Aside0 (wr.heap[w.heap.size]? = some (.cells #[.int .i64 oa, .int .i64 ob] 29 (0, 0))) ∧ Aside0 (Below w.heap.size w wr)) (fun vi _ => os.length - (nOf vi).toNat)
    case atStart => exact ⟨0, [], rfl, Nat.zero_le _, HHF, HVF, HBF⟩
    case round =>
      obtain ⟨t, L, rfl, ht, HH, HV, HB⟩ := hrel
      clear HHF HBF HVF
      by_cases hlt : t < os.length
      · obtain ⟨⟨k, x, ⟨a, b⟩⟩, hq⟩ : ∃ q, os[t]? = some q := ⟨_, List.getElem?_eq_getElem hlt⟩
        have HX : Aside0 (x.size ≤ 50000) := ⟨by have := HSZ.out _ (List.mem_of_getElem? hq); simp only at this; omega⟩
        obtain ⟨L2, ⟨ha, hb⟩, e0, hr⟩ : ∃ L2 h e0, doE L k x.data.toList (a, b) = (L2, h, e0) := ⟨_, _, _, rfl⟩
        have HDO := Aside0.mk hr
        obtain ⟨ad, hA, x0, x1, x2, x3⟩ := op_at (HO.out.below HB.out) hq
        subst hA
        clear hq hr
        go_wp2_with (go_at_call 14; (with_reducible refine (does_row _ p s L (HH.out.below (below_alloc (Below.refl _ _) _)) k x HX.out a b HDO.out).mono ?_); rintro e w4 ⟨rfl, h4, hf4⟩; have H4 := Aside0.mk h4; have HV4 := Aside0.mk ((HH.out.below (below_alloc (Below.refl _ _) (.cells #[.int .i64 k, .string x, .int .i64 a, .int .i64 b] 31))).sfr hf4 (old_blk HV.out _) (by omega)); have HB4 := Aside0.mk ((below_alloc HB.out (.cells #[.int .i64 k, .string x, .int .i64 a, .int .i64 b] 31)).trans (hf4.below w.heap.size (below_alloc HB.out (.cells #[.int .i64 k, .string x, .int .i64 a, .int .i64 b] 31)).size (fun b hb => by omega))); clear h4 hf4)
        go_roundw
        case rel => exact ⟨t + 1, L2, by go_num, by omega, H4, HV4, HB4⟩
        case measure => simp [nOf]; omega
      · have hfew := HH.out.good.few
        go_wp2_with (go_at_call 19; (with_reducible refine (names_calls wr p s L HH.out).mono ?_); rintro e w2 ⟨un, rfl, hr2, hb2⟩; obtain ⟨A2, c2, hv2, _, _⟩ := Kd.R_reads hr2; rw [names_len] at hv2; subst hv2; have HN2 := Aside0.mk hr2; have H2 := Aside0.mk (HH.out.below hb2); have HV2 := Aside0.mk ((hb2.block w.heap.size (blk_lt HV.out)).trans HV.out); have HB2 := Aside0.mk (bel_step HB.out hb2); have hsz2 := hb2.size; have HSW := Aside0.mk hsz2; clear hr2 hb2 hsz2)
        clear HH HV HB ht hlt
        go_loopw [8, 42] (fun uh vi w3 => ∃ (t : Nat) (uw : Value), uw = uh ∧ uw = .bool (hasB (oa, ob) (L.take t)) ∧ vi = .int .i64 t ∧ t ≤ L.length ∧ Aside0 (HasR w3 p s L) ∧ Aside0 (Kd.R Kd.string 9 w3 wr.heap.size (fun _ => True) (.slice A2 L.length c2) (namesB L)) ∧ Aside0 (w3.heap[w.heap.size]? = some (.cells #[.int .i64 oa, .int .i64 ob] 29 (0, 0))) ∧ Aside0 (Below w.heap.size w w3)) (fun _ vi _ => L.length - (nOf vi).toNat)
        case atStart => exact ⟨0, _, rfl, rfl, rfl, Nat.zero_le _, H2, HN2, HV2, HB2⟩
        case round =>
          obtain ⟨t, uw, rfl, rfl, rfl, ht, HH, HN, HV, HB⟩ := hrel
          clear H2 HN2 HV2 HB2
          by_cases hlt : t < L.length
          · obtain ⟨q, hq⟩ : ∃ q, L[t]? = some q := ⟨_, List.getElem?_eq_getElem hlt⟩
            have hqm := List.mem_of_getElem? hq
            obtain ⟨gn, rfl, hgn, hcell⟩ := str_cell HN.out (names_get hq)
            have hsz := nmB_size q.1
            have hnl := name_len HH.out.good hqm
            have hge : getE L (nmB q.1).data.toList = ((q.2.1, q.2.2), 0) := by simp [getE, mem_getR HH.out.good.sorted hqm]
            have HGET := Aside0.mk (rget_at wr p s L HH.out (nmB q.1) (by rw [hsz]; unfold maxLen; omega) _ _ _ hge)
            have HTK := Aside0.mk (hasB_take (c := (oa, ob)) hq)
            obtain ⟨x, a, b⟩ := q
            simp only at HGET HTK
            obtain ⟨bv, hbv⟩ : ∃ bv, bv = hasB (oa, ob) (L.take t) := ⟨_, rfl⟩
            rw [← hbv] at HTK ⊢
            clear hq hqm hge hsz hnl hbv
            cases bv with
            | true =>
              go_wp2_with (go_at_call 17; (with_reducible refine HGET.out.mono ?_); rintro e w6 ⟨rfl, hb6⟩; have hv6 := old_blk ((hb6.block w.heap.size (blk_lt HV.out)).trans HV.out) (.cells #[.int .i64 a, .int .i64 b] 29); have v0 := blk_cell hv6 (i := 0) rfl; have v1 := blk_cell hv6 (i := 1) rfl; have HV6 := Aside0.mk hv6; have H6 := Aside0.mk ((HH.out.below hb6).below (below_alloc (Below.refl w6.heap.size w6) (.cells #[.int .i64 a, .int .i64 b] 29))); have HN6 := Aside0.mk (Kd.R_below (Kd.R_below HN.out hb6) (below_alloc (Below.refl w6.heap.size w6) (.cells #[.int .i64 a, .int .i64 b] 29))); have HB6 := Aside0.mk (below_alloc (bel_step HB.out hb6) (.cells #[.int .i64 a, .int .i64 b] 29)); clear hb6 hv6)
              go_roundw
              case rel => exact ⟨t + 1, _, rfl, by rw [HTK.out]; rfl, by go_num, by omega, H6, HN6, HV6, HB6⟩
              case measure => simp [nOf]; omega
            | false =>
              go_wp2_with (go_at_call 17; (with_reducible refine HGET.out.mono ?_); rintro e w6 ⟨rfl, hb6⟩; have hv6 := old_blk ((hb6.block w.heap.size (blk_lt HV.out)).trans HV.out) (.cells #[.int .i64 a, .int .i64 b] 29); have v0 := blk_cell hv6 (i := 0) rfl; have v1 := blk_cell hv6 (i := 1) rfl; have HV6 := Aside0.mk hv6; have H6 := Aside0.mk ((HH.out.below hb6).below (below_alloc (Below.refl w6.heap.size w6) (.cells #[.int .i64 a, .int .i64 b] 29))); have HN6 := Aside0.mk (Kd.R_below (Kd.R_below HN.out hb6) (below_alloc (Below.refl w6.heap.size w6) (.cells #[.int .i64 a, .int .i64 b] 29))); have HB6 := Aside0.mk (below_alloc (bel_step HB.out hb6) (.cells #[.int .i64 a, .int .i64 b] 29)); clear hb6 hv6)
              go_roundw
              case rel => exact ⟨t + 1, _, rfl, by rw [HTK.out]; rfl, by go_num, by omega, H6, HN6, HV6, HB6⟩
              case measure => simp [nOf]; omega
          · have htk : L.take t = L := List.take_of_length_le (by omega)
            rw [htk]
            obtain ⟨bv, hbv⟩ : ∃ bv, bv = hasB (oa, ob) L := ⟨_, rfl⟩
            rw [← hbv]
            rw [has_same HH.out.good] at hbv
            have hpl : (hsS (hsL L)).length ≤ 16 := by rw [hsS, List.length_map]; exact Nat.le_trans (hsL_len L) HH.out.good.few
            have HHC := Aside0.mk (handles_calls wr p s L HH.out)
            generalize hsS (hsL L) = hs at hbv hpl HHC
            have HBV := Aside0.mk hbv
            clear hbv
            go_wp2_with (go_at_call 20; (with_reducible refine HHC.out.mono ?_); rintro e w2 ⟨u7, rfl, hr2, hb2⟩; obtain ⟨A7, c7, hv2, _, hC7⟩ := Kd.R_reads hr2; subst hv2; have HC7 := Aside0.mk hC7; have HV2 := Aside0.mk ((hb2.block w.heap.size (blk_lt HV.out)).trans HV.out); have HB2 := Aside0.mk (bel_step HB.out hb2); clear hr2 hb2 hC7)
            clear HH HN HV HB HHC htk hlt ht hfew HSW
            go_loopw [13, 62] (fun uh vi w3 => ∃ (t : Nat) (uw : Value), uw = uh ∧ uw = .bool (hasH (oa, ob) (hs.take t)) ∧ vi = .int .i64 t ∧ t ≤ hs.length ∧ Aside0 (Kd.C k29 w3 A7 hs.length hs) ∧ Aside0 (w3.heap[w.heap.size]? = some (.cells #[.int .i64 oa, .int .i64 ob] 29 (0, 0))) ∧ Aside0 (Below w.heap.size w w3)) (fun _ vi _ => hs.length - (nOf vi).toNat)
            case atStart => exact ⟨0, _, rfl, rfl, rfl, Nat.zero_le _, HC7, HV2, HB2⟩
            case round =>
              obtain ⟨t, uw, rfl, rfl, rfl, ht, HC, HV, HB⟩ := hrel
              clear HC7 HV2 HB2
              by_cases hlt : t < hs.length
              · obtain ⟨⟨a, b⟩, hq⟩ : ∃ q, hs[t]? = some q := ⟨_, List.getElem?_eq_getElem hlt⟩
                have HTK := Aside0.mk (hasH_take (c := (oa, ob)) hq)
                obtain ⟨ad, hA, x0, x1⟩ := at_T29 HC.out (t : Int) (by omega) (by omega)
                rw [show rd_T29 hs (t : Int) = ⟨a, b⟩ by simp [rd_T29, List.getD_eq_getElem?_getD, hq], Int.toNat_natCast] at x0 x1
                subst hA
                simp only at HTK x0 x1
                obtain ⟨bw, hbw⟩ : ∃ bw, bw = hasH (oa, ob) (hs.take t) := ⟨_, rfl⟩
                rw [← hbw] at HTK ⊢
                have hv6 := old_blk HV.out (.cells #[.int .i64 a, .int .i64 b] 29)
                have v0 := blk_cell hv6 (i := 0) rfl
                have v1 := blk_cell hv6 (i := 1) rfl
                have HV6 := Aside0.mk hv6
                have HC6 := Aside0.mk (Kd.C_below HC.out (below_alloc (Below.refl wr.heap.size wr) (.cells #[.int .i64 a, .int .i64 b] 29)))
                have HB6 := Aside0.mk (below_alloc HB.out (.cells #[.int .i64 a, .int .i64 b] 29))
                clear hq hbw hv6
                cases bw with
                | true =>
                  go_wp2
                  go_roundw
                  case rel => exact ⟨t + 1, _, rfl, by rw [HTK.out]; rfl, by go_num, by omega, HC6, HV6, HB6⟩
                  case measure => simp [nOf]; omega
                | false =>
                  go_wp2
                  go_roundw
                  case rel => exact ⟨t + 1, _, rfl, by rw [HTK.out]; rfl, by go_num, by omega, HC6, HV6, HB6⟩
                  case measure => simp [nOf]; omega
              · have htk : hs.take t = hs := List.take_of_length_le (by omega)
                rw [htk, ← HBV.out]
                go_wp2_with (go_at_call 12; (with_reducible refine (aliveR_calls _).mono ?_); rintro e wA ⟨rfl, hbA⟩; have HBA := Aside0.mk (bel_step HB.out hbA); clear hbA)
                go_ret
                exact ⟨rfl, HBA.out⟩
end Go.Proofs.Ytliclajcifeneaa.Hand
