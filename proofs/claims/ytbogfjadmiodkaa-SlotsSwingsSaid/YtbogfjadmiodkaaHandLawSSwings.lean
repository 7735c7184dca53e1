/- SlotsSwings, walked. -/
import Derived.Test.YtbogfjadmiodkaaHandLawSMade
namespace Go.Proofs.Ytbogfjadmiodkaa.Hand
open Go.RowKit Go.Proofs.YtbogfjadmiodkaaW.PrintWords
set_option linter.unusedVariables false
set_option linter.unusedSimpArgs false
theorem countP_off {L : List Sl} {k : Nat} {x : Sl} (hx : L[k]? = some x) (hu : x.2.1 = true) : L.countP (·.2.1) = (L.set k (x.1, false, 0)).countP (·.2.1) + 1 := by
  induction L generalizing k with
  | nil => simp at hx
  | cons y L ih =>
    cases k with
    | zero =>
      obtain rfl : y = x := by simpa using hx
      simp [hu]
    | succ k =>
      have := ih (k := k) (by simpa using hx)
      simp only [List.set_cons_succ, List.countP_cons, this]
      omega
set_option maxHeartbeats 1000000 in
theorem slotsSwings_walk (A : Option Addr) (c : Nat) (l : List Int) (a b n : Int) (w : World) (hr : ReadsInt w .u8 A l.length l) (hb : Bys l) (_y : l.length ≤ 140737488351232) (_h1 : (Lit.int .i64 a).wf = true) (_h2 : (Lit.int .i64 b).wf = true) (_h3 : (Lit.int .u64 n).wf = true) :
    Calls Try.prog 9 #[.slice A l.length c, .agg #[.int .i64 a, .int .i64 b], .int .u64 n] w fun e w' => e = .returned (.bool true) ∧ Below w.heap.size w w' := by
  have hln : l.length ≤ 9223372036854775807 := by omega
  have HBX0 := Aside0.mk (Bx.new w a b)
  have HB0 := Aside0.mk (below_alloc (Below.refl w.heap.size w) (Obj.cells #[Value.int IntKind.i64 a, Value.int IntKind.i64 b] 23))
  cases hf : fewB l.length 0 with
  | false =>
    have HF := Aside0.mk hf
    go_enter Try.func9, Try.ntmps9
    go_wp2_with (first | (go_at_call 21; (with_reducible refine (few_nil _ A _ c hln).mono ?_); rw [HF.out]; rintro e wF ⟨rfl, rfl⟩) | (go_at_call 13; (with_reducible refine (sl_alive _).mono ?_); rintro e wA ⟨rfl, hbA⟩; have HBA := Aside0.mk hbA; clear hbA))
    go_ret
    exact ⟨rfl, bel_step HB0.out HBA.out⟩
  | true =>
    have HF := Aside0.mk hf
    obtain ⟨h1, _⟩ := fewB_le hf
    cases hd : decM l with
    | none =>
      have HM := Aside0.mk (made_nil_none _ A c l (hr.below HB0.out) hb (by omega) hd)
      clear hr hb hf hd
      go_enter Try.func9, Try.ntmps9
      go_wp2_with (first | (go_at_call 21; (with_reducible refine (few_nil _ A _ c hln).mono ?_); rw [HF.out]; rintro e wF ⟨rfl, rfl⟩) | (go_at_call 22; (with_reducible refine HM.out.mono ?_); rintro e w1 ⟨rfl, hb1⟩; have HB1 := Aside0.mk (bel_step HB0.out hb1); clear hb1) | (go_at_call 13; (with_reducible refine (sl_alive _).mono ?_); rintro e wA ⟨rfl, hbA⟩; have HBA := Aside0.mk hbA; clear hbA))
      go_ret
      exact ⟨rfl, bel_step HB1.out HBA.out⟩
    | some L =>
      have HM := Aside0.mk (made_nil _ A c l L (hr.below HB0.out) hb (by omega) hd)
      clear hr hb hf hd
      cases hg : goodM L (a, b) with
      | false =>
        have HG := Aside0.mk hg
        clear hg
        go_enter Try.func9, Try.ntmps9
        go_wp2_with (first | (go_at_call 21; (with_reducible refine (few_nil _ A _ c hln).mono ?_); rw [HF.out]; rintro e wF ⟨rfl, rfl⟩) | (go_at_call 22; (with_reducible refine HM.out.mono ?_); rintro e w1 ⟨p, v, u, rfl, hs1, hr1, hp1, hv1, hw1, hn1, hb1⟩; have HB1 := Aside0.mk hb1; have HS1 := Aside0.mk hs1; have HR1 := Aside0.mk hr1; have HW1 := Aside0.mk hw1; have HV1 := Aside0.mk hv1; have HP1 := Aside0.mk hp1; obtain ⟨A1, c1, hu1, _, _⟩ := flat_reads hr1; subst hu1; have Xh := Aside0.mk (HBX0.out.below hb1); have xh0 := Xh.out.c0; have xh1 := Xh.out.c1; clear hb1 hs1 hr1 hp1 hv1 hw1) | (go_at_call 28; (with_reducible refine (swing_stale _ p v L a b n HS1.out HG.out).mono ?_); rintro e w2 ⟨rfl, hb2⟩; have HB2 := Aside0.mk (bel_step HB1.out hb2); have HS2 := Aside0.mk (HS1.out.move hb2); have HR2 := Aside0.mk (Kd.R_below HR1.out hb2); have Xi := Aside0.mk (Xh.out.below hb2); have xi0 := Xi.out.c0; have xi1 := Xi.out.c1; clear hb2) | (go_at_call 13; (with_reducible refine (sl_alive _).mono ?_); rintro e wA ⟨rfl, hbA⟩; have HBA := Aside0.mk (bel_step HB2.out hbA); have HRA := Aside0.mk (Kd.R_below HR2.out hbA); have Xj := Aside0.mk (Xi.out.below hbA); have xj0 := Xj.out.c0; have xj1 := Xj.out.c1; clear hbA) | (go_at_call 31; (with_reducible refine (rGood_calls _ A1 c1 L a b (rd_of HRA.out)).mono ?_); rw [HG.out]; rintro e wG ⟨rfl, hbG⟩; have HBG := Aside0.mk (bel_step HBA.out hbG); clear hbG))
        go_ret
        exact ⟨rfl, bel_step HB0.out HBG.out⟩
      | true =>
        obtain ⟨k, x, hk, hx, hu, hxg, _⟩ := good_slot hg
        simp only at hk hxg
        subst hk hxg
        have HG := Aside0.mk hg
        have HX := Aside0.mk hx
        have HU := Aside0.mk hu
        obtain ⟨cu, hcu⟩ : ∃ cu : Nat, cu = (L.set k (x.1, false, 0)).countP (·.2.1) := ⟨_, rfl⟩
        have HCL := Aside0.mk (show L.length ≤ 256 → cu ≤ 256 from fun h => by
          rw [hcu]
          refine Nat.le_trans List.countP_le_length ?_
          rw [List.length_set]
          exact h)
        have HCU := Aside0.mk (show (L.set k (x.1, false, 0)).countP (·.2.1) = cu ∧ L.countP (·.2.1) = cu + 1 from ⟨hcu.symm, by rw [hcu]; exact countP_off hx hu⟩)
        clear hg hx hu hcu
        go_enter Try.func9, Try.ntmps9
        go_wp2_with (first | (go_at_call 21; (with_reducible refine (few_nil _ A _ c hln).mono ?_); rw [HF.out]; rintro e wF ⟨rfl, rfl⟩) | (go_at_call 22; (with_reducible refine HM.out.mono ?_); rintro e w1 ⟨p, v, u, rfl, hs1, hr1, hp1, hv1, hw1, hn1, hb1⟩; have HB1 := Aside0.mk hb1; have HS1 := Aside0.mk hs1; have HR1 := Aside0.mk hr1; have HW1 := Aside0.mk hw1; have HV1 := Aside0.mk hv1; have HP1 := Aside0.mk hp1; obtain ⟨A1, c1, hu1, _, _⟩ := flat_reads hr1; subst hu1; have Xh := Aside0.mk (HBX0.out.below hb1); have xh0 := Xh.out.c0; have xh1 := Xh.out.c1; clear hb1 hs1 hr1 hp1 hv1 hw1) | (go_at_call 28; have hkl := (List.getElem?_eq_some_iff.1 HX.out).1; (with_reducible refine (swing_good _ p v L k x n HS1.out HX.out HU.out).mono ?_); rintro e w2 ⟨rfl, hs2, hf2⟩; have HB2 := Aside0.mk (HB1.out.trans (hf2.below _ HB1.out.size HV1.out)); have HS2 := Aside0.mk hs2; have HR2 := Aside0.mk (Kd.R_mono (row_fr HR1.out hf2 (fun k hk => hk.2.2)) (fun k hk => hk.1)); have HNV := Aside0.mk (show ¬ some w.heap.size = v.ownBlock from fun e => by have := HV1.out _ e; simp at this; omega); have Xi := Aside0.mk (show Bx w2 w.heap.size k x.1 from hf2.get Xh.out HNV.out); have xi0 := Xi.out.c0; have xi1 := Xi.out.c1; clear hs2 hf2) | (go_at_call 27; have hgg := get_good w2 p v (L.set k (x.1, true, n)) k (x.1, true, n) HS2.out (List.getElem?_set_self hkl) rfl; (with_reducible refine hgg.mono ?_); clear hgg; rintro e w3 ⟨rfl, hb3⟩; have HB3 := Aside0.mk (bel_step HB2.out hb3); have HS3 := Aside0.mk (HS2.out.move hb3); have HR3 := Aside0.mk (Kd.R_below HR2.out hb3); have Xj := Aside0.mk (Xi.out.below hb3); have xj0 := Xj.out.c0; have xj1 := Xj.out.c1; clear hb3) | (go_at_call 29; have hgg := free_good w3 p v (L.set k (x.1, true, n)) k (x.1, true, n) HS3.out (List.getElem?_set_self hkl) rfl; (rw [List.set_set] at hgg); (with_reducible refine hgg.mono ?_); clear hgg; rintro e w4 ⟨rfl, hs4, hf4⟩; have HB4 := Aside0.mk (HB3.out.trans (hf4.below _ HB3.out.size HV1.out)); have HS4 := Aside0.mk hs4; have HR4 := Aside0.mk (Kd.R_mono (row_fr HR3.out hf4 (fun k hk => hk.2.2)) (fun k hk => hk.1)); have Xk := Aside0.mk (show Bx w4 w.heap.size k x.1 from hf4.get Xj.out HNV.out); have xk0 := Xk.out.c0; have xk1 := Xk.out.c1; have HA4 := Aside0.mk (atV_none (atM_free (L := L.set k (x.1, false, 0)) (List.getElem?_set_self hkl) rfl)); clear hs4 hf4) | (go_at_call 32; (with_reducible refine (at_calls w4 p v (L.set k (x.1, false, 0)) k HS4.out).mono ?_); rw [HA4.out]; rintro e w5 ⟨rfl, hb5⟩; have HB5 := Aside0.mk (bel_step HB4.out hb5); have HS5 := Aside0.mk (HS4.out.move hb5); have HR5 := Aside0.mk (Kd.R_below HR4.out hb5); have Xm := Aside0.mk (Xk.out.below hb5); have xm0 := Xm.out.c0; have xm1 := Xm.out.c1; clear hb5) | (go_at_call 13; (with_reducible refine (sl_alive _).mono ?_); rintro e w6 ⟨rfl, hb6⟩; have HB6 := Aside0.mk (bel_step (below_alloc HB5.out _) hb6); have HS6 := Aside0.mk ((HS5.out.move (below_alloc (Below.refl _ _) _)).move hb6); have HR6 := Aside0.mk (Kd.R_below (Kd.R_below HR5.out (below_alloc (Below.refl _ _) _)) hb6); have Xn := Aside0.mk ((Xm.out.below (below_alloc (Below.refl _ _) _)).below hb6); have xn0 := Xn.out.c0; have xn1 := Xn.out.c1; clear hb6) | (go_at_call 31; (with_reducible refine (rGood_calls w6 A1 c1 L k x.1 (rd_of HR6.out)).mono ?_); rw [HG.out]; rintro e w7 ⟨rfl, hb7⟩; have HB7 := Aside0.mk (bel_step HB6.out hb7); have HS7 := Aside0.mk (HS6.out.move hb7); have HR7 := Aside0.mk (Kd.R_below HR6.out hb7); clear hb7) | (go_at_call 19; have hcl := HCL.out hn1; (with_reducible refine (used_calls w7 p v (L.set k (x.1, false, 0)) HS7.out (by rw [List.length_set]; omega)).mono ?_); rw [HCU.out.1]; rintro e w8 ⟨rfl, hb8⟩; have HB8 := Aside0.mk (bel_step HB7.out hb8); have HR8 := Aside0.mk (Kd.R_below HR7.out hb8); clear hb8) | (go_at_call 33; (with_reducible refine (rUsed_calls w8 A1 c1 L (rd_of HR8.out) (by omega)).mono ?_); rw [HCU.out.2]; rintro e w9 ⟨rfl, rfl⟩))
        go_ret
        exact ⟨rfl, bel_step HB0.out HB8.out⟩
end Go.Proofs.Ytbogfjadmiodkaa.Hand
