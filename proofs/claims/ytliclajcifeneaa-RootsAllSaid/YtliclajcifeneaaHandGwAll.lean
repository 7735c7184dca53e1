/- RootsAll, walked. -/
import Derived.Test.YtliclajcifeneaaHandGB1
import Derived.Test.YtliclajcifeneaaHandGT1
import Derived.Test.YtliclajcifeneaaHandGS1
import Derived.Test.YtliclajcifeneaaHandGR1
import Derived.Test.YtliclajcifeneaaHandGT2
namespace Go.Proofs.Ytliclajcifeneaa.Hand
open Go.RowKit Go.Maps Go.Sort Go.Shelf Go.Proofs.YtliclajcifeneaaW.PrintWords Go.Proofs.Ytliclajcifeneaa.PHandRR
attribute [local go_sem high] eqA29
set_option linter.unusedVariables false
set_option linter.unusedSimpArgs false
set_option maxRecDepth 100000 in
set_option maxHeartbeats 4000000 in
theorem rootsAll_walk (B : Option Addr) (d : Nat) (os : List S31) (w : World) (ho : OpsR w B d os) :
    Calls Try.prog 3 #[.slice B os.length d] w fun e w' => e = .returned (.bool true) ∧ Below w.heap.size w w' := by
  have hu29 := Try.underlying29
  have hu31 := Try.underlying31
  have HO := Aside0.mk ho
  have hln := ho.len
  cases hf : fewR os with
  | false =>
    have HF := Aside0.mk hf
    clear ho hf
    go_enter Try.func3, Try.ntmps3
    go_wp2_with (first | (go_at_call 10; (with_reducible refine (rnew_calls w).mono ?_); rintro e w1 ⟨p, s, rfl, h1, hb1, hp1, hs1⟩; have H1 := Aside0.mk h1; have HB1 := Aside0.mk hb1; clear h1 hb1) | (go_at_call 11; (with_reducible refine (few_row _ B d os (HO.out.below HB1.out)).mono ?_); rw [HF.out]; rintro e wF ⟨rfl, hbF⟩; have HBF := Aside0.mk (bel_step HB1.out hbF); have HFF := Aside0.mk hbF; clear hbF) | (go_at_call 12; (with_reducible refine (aliveR_calls _).mono ?_); rintro e wA ⟨rfl, hbA⟩; have HBA := Aside0.mk (bel_step HBF.out hbA); clear hbA))
    go_ret
    exact ⟨rfl, HBA.out⟩
  | true =>
    have HF := Aside0.mk hf
    obtain ⟨hl100, hsz⟩ := fewR_yes hf
    have HSZ := Aside0.mk hsz
    clear ho hf hsz
    go_enter Try.func3, Try.ntmps3
    go_wp2_with (first | (go_at_call 10; (with_reducible refine (rnew_calls w).mono ?_); rintro e w1 ⟨p, s, rfl, h1, hb1, hp1, hs1⟩; have H1 := Aside0.mk h1; have HB1 := Aside0.mk hb1; clear h1 hb1) | (go_at_call 11; (with_reducible refine (few_row _ B d os (HO.out.below HB1.out)).mono ?_); rw [HF.out]; rintro e wF ⟨rfl, hbF⟩; have HBF := Aside0.mk (bel_step HB1.out hbF); have HFF := Aside0.mk hbF; clear hbF))
    have HHF := Aside0.mk (H1.out.below HFF.out)
    clear H1 HB1 HFF
    go_loopw [4, 27] (fun ul vi wr => ∃ (t : Nat) (L : List Rt) (uw : Value), uw = ul ∧ vi = .int .i64 t ∧ t ≤ os.length ∧ Aside0 (HasR wr p s L) ∧ Aside0 (RefR wr w.heap.size p s uw L) ∧ Aside0 (Below w.heap.size w wr)) (fun _ vi _ => os.length - (nOf vi).toNat)
    case atStart => exact ⟨0, [], _, rfl, rfl, Nat.zero_le _, HHF, ⟨RefR.nil _ _ _ _⟩, HBF⟩
    case round =>
      obtain ⟨t, L, uw, rfl, rfl, ht, HH, HR, HB⟩ := hrel
      clear HHF HBF
      by_cases hlt : t < os.length
      · obtain ⟨⟨k, x, ⟨a, b⟩⟩, hq⟩ : ∃ q, os[t]? = some q := ⟨_, List.getElem?_eq_getElem hlt⟩
        have HX : Aside0 (x.size ≤ 50000) := ⟨by have := HSZ.out _ (List.mem_of_getElem? hq); simp only at this; omega⟩
        obtain ⟨L2, ⟨ha, hb⟩, e0, hr⟩ : ∃ L2 h e0, doE L k x.data.toList (a, b) = (L2, h, e0) := ⟨_, _, _, rfl⟩
        have HDO := Aside0.mk hr
        obtain ⟨ad, hA, x0, x1, x2, x3⟩ := op_at (HO.out.below HB.out) hq
        subst hA
        clear hq hr
        go_wp2_with (first | (go_at_call 13; (with_reducible refine (do_row (below_alloc HB.out _) (HR.out.old (below_alloc (Below.refl _ _) _)) HH.out.good k x HX.out a b HDO.out).mono ?_); rintro e w2 ⟨v2, rfl, hr2, hb2, hk2⟩; have hop := (hk2.2 wr.heap.size (by simp) (fun e => Nat.lt_irrefl _ e.2.2)).trans (heap_alloc_new wr _); have H2 := Aside0.mk ((HH.out.below (below_alloc (Below.refl _ _) _)).kept hk2 (fun e => e.1 rfl) (fun e => e.2.1 rfl)); have HW2 := Aside0.mk (below_alloc (Below.refl w2.heap.size w2) (.cells #[.int .i64 ha, .int .i64 hb] 29)); have y0 := cell_alloc (o := .cells #[.int .i64 ha, .int .i64 hb] 29) (blk_cell hop (i := 0) rfl); have y1 := cell_alloc (o := .cells #[.int .i64 ha, .int .i64 hb] 29) (blk_cell hop (i := 1) rfl); have y2 := cell_alloc (o := .cells #[.int .i64 ha, .int .i64 hb] 29) (blk_cell hop (i := 2) rfl); have y3 := cell_alloc (o := .cells #[.int .i64 ha, .int .i64 hb] 29) (blk_cell hop (i := 3) rfl); obtain ⟨A2, c2, hv2, _, _⟩ := Kd.R_reads hr2; rw [toS_len] at hv2; subst hv2; have HR2 := Aside0.mk hr2; have HB2 := Aside0.mk hb2; have HLT := Aside0.mk hk2.1; clear hr2 hb2 hk2 hop x0 x1 x2 x3) | (go_at_call 14; (with_reducible refine (does_row _ p s L (H2.out.below HW2.out) k x HX.out a b HDO.out).mono ?_); rintro e w4 ⟨rfl, h4, hf4⟩; have hh := (hf4.block w2.heap.size (by simp) (by have := H2.out.s_lt; omega)).trans (heap_alloc_new w2 _); have z0 := cell_alloc (o := .cells #[.int .i64 ha, .int .i64 hb] 29) (blk_cell hh (i := 0) rfl); have z1 := cell_alloc (o := .cells #[.int .i64 ha, .int .i64 hb] 29) (blk_cell hh (i := 1) rfl); have HW4 := Aside0.mk (below_alloc (Below.refl w4.heap.size w4) (.cells #[.int .i64 ha, .int .i64 hb] 29)); have H5 := Aside0.mk (h4.below HW4.out); have HR5 := Aside0.mk ((RefR.of (Kd.R_below HR2.out HW2.out) (fun e => by have h1 := HH.out.p_lt; rcases e with e | e; exact e.1 rfl; simp at e; omega) (fun e => by have h1 := HH.out.s_lt; rcases e with e | e; exact e.2.1 rfl; simp at e; omega) hf4).below HW4.out); have HB5 := Aside0.mk (below_alloc ((below_alloc HB2.out (.cells #[.int .i64 ha, .int .i64 hb] 29)).trans (hf4.below w.heap.size (below_alloc HB2.out (.cells #[.int .i64 ha, .int .i64 hb] 29)).size (fun b hb => by omega))) (.cells #[.int .i64 ha, .int .i64 hb] 29)); clear h4 hf4 hh y0 y1 y2 y3) | (go_at_call 15; (with_reducible refine (stands_calls _ p s L2 H5.out A2 c2 HR5.out.reads.1 HR5.out.reads.2).mono ?_); rintro e w6 ⟨rfl, hb6⟩; have H6 := Aside0.mk (H5.out.below hb6); have HR6 := Aside0.mk (HR5.out.below hb6); have HB6 := Aside0.mk (bel_step HB5.out hb6); clear hb6)
          )
        go_roundw
        case rel => exact ⟨t + 1, L2, _, rfl, by go_num, by omega, H6, HR6, HB6⟩
        case measure => simp [nOf]; omega
      · go_wp2_with (go_at_call 12; (with_reducible refine (aliveR_calls _).mono ?_); rintro e wA ⟨rfl, hbA⟩; have HBA := Aside0.mk (bel_step HB.out hbA); clear hbA)
        go_ret
        exact ⟨rfl, HBA.out⟩
end Go.Proofs.Ytliclajcifeneaa.Hand
