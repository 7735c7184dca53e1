/- SlotsCopies, walked. -/
import Derived.Test.YtbogfjadmiodkaaHandSlCopy
namespace Go.Proofs.Ytbogfjadmiodkaa.Hand
open Go.RowKit Go.Proofs.YtbogfjadmiodkaaW.PrintWords
set_option linter.unusedVariables false
set_option linter.unusedSimpArgs false
/-- Slots that lie elsewhere are not touched by a call on others. -/
theorem HasSl.fr {S : Nat → Prop} {w w1 : World} {p : Nat} {v : Value} {L : List Sl} (h : HasSl w p v L) (hf : Fr S w w1) (hp : ¬ S p) (hv : ∀ k, some k = v.ownBlock → ¬ S k) : HasSl w1 p v L := by
  refine h.same (hf.block p (blk_lt h.ptr) hp) (fun k hk => hf.block k ?_ (hv k hk.symm))
  by_cases hl : k < w.heap.size
  · exact hl
  · exact absurd hk.symm (h.own_lt (Nat.le_of_not_lt hl))
set_option maxHeartbeats 1000000 in
theorem slotsCopies_walk (A : Option Addr) (c : Nat) (l : List Int) (B : Option Addr) (d : Nat) (os : List OpT) (w : World) (hr : ReadsInt w .u8 A l.length l) (hb : Bys l) (_y : l.length ≤ 140737488351232) (ho : OpK.C w B os.length os) (hwo : ∀ o ∈ os, WfOp o) :
    Calls Try.prog 11 #[.slice A l.length c, .slice B os.length d] w fun e w' => e = .returned (.bool true) ∧ Below w.heap.size w w' := by
  have hln : l.length ≤ 9223372036854775807 := by omega
  have hlm : os.length ≤ 9223372036854775807 := ho.2.1
  cases hf : fewB l.length os.length with
  | false =>
    have HF := Aside0.mk hf
    go_enter Try.func11, Try.ntmps11
    go_wp2_with (first | (go_at_call 21; (with_reducible refine (few_calls _ A B _ c _ d hln hlm).mono ?_); rw [HF.out]; rintro e wF ⟨rfl, rfl⟩) | (go_at_call 13; (with_reducible refine (sl_alive _).mono ?_); rintro e wA ⟨rfl, hbA⟩; have HBA := Aside0.mk hbA; clear hbA))
    go_ret
    exact ⟨rfl, HBA.out⟩
  | true =>
    have HF := Aside0.mk hf
    obtain ⟨h1, h2⟩ := fewB_le hf
    cases hd : decM l with
    | none =>
      have HM := Aside0.mk (made_nil_none w A c l hr hb (by omega) hd)
      clear hr hb ho hwo hf hd
      go_enter Try.func11, Try.ntmps11
      go_wp2_with (first | (go_at_call 21; (with_reducible refine (few_calls _ A B _ c _ d hln hlm).mono ?_); rw [HF.out]; rintro e wF ⟨rfl, rfl⟩) | (go_at_call 22; (with_reducible refine HM.out.mono ?_); rintro e w1 ⟨rfl, hb1⟩; have HB1 := Aside0.mk hb1; clear hb1) | (go_at_call 13; (with_reducible refine (sl_alive _).mono ?_); rintro e wA ⟨rfl, hbA⟩; have HBA := Aside0.mk hbA; clear hbA))
      go_ret
      exact ⟨rfl, bel_step HB1.out HBA.out⟩
    | some L =>
      have HM := Aside0.mk (made_nil w A c l L hr hb (by omega) hd)
      have HO := Aside0.mk ho
      have HWO := Aside0.mk hwo
      clear hr hb ho hwo hf hd
      go_enter Try.func11, Try.ntmps11
      go_wp2_with (first | (go_at_call 21; (with_reducible refine (few_calls _ A B _ c _ d hln hlm).mono ?_); rw [HF.out]; rintro e wF ⟨rfl, rfl⟩) | (go_at_call 22; (with_reducible refine HM.out.mono ?_); rintro e w1 ⟨p, v, u, rfl, hs1, hr1, hp1, hv1, hw1, hn1, hb1⟩; have HB1 := Aside0.mk hb1; have HS1 := Aside0.mk hs1; have HR1 := Aside0.mk hr1; have HW1 := Aside0.mk hw1; have HV1 := Aside0.mk hv1; have HP1 := Aside0.mk hp1; obtain ⟨A1, c1, hu1, _, _⟩ := flat_reads hr1; subst hu1; clear hb1 hs1 hr1 hp1 hv1 hw1) | (go_at_call 34; (with_reducible refine (copy_calls w1 p v L HS1.out (by omega)).mono ?_); rintro e w2 ⟨q, x, rfl, hs2, hq2, hx2, hb2⟩; have HB2 := Aside0.mk (bel_step HB1.out hb2); have HS2 := Aside0.mk (HS1.out.move hb2); have HR2 := Aside0.mk (show SlK.R 57 w2 0 (fun k => Apart w p v k ∧ k < w1.heap.size) (.slice A1 L.length c1) L from Kd.R_mono (Kd.R_below (Kd.R_bound HR1.out) hb2) (fun k hk => ⟨hk.1, hk.2.2.1⟩)); have HC2 := Aside0.mk hs2; have HQ2 := Aside0.mk hq2; have HX2 := Aside0.mk hx2; clear hs2 hq2 hx2 hb2) | (go_at_call 25; (with_reducible refine (stands_calls w2 q x A1 c1 L HC2.out (rd_of HR2.out) hn1).mono ?_); rintro e w3 ⟨rfl, hb3⟩; have HB3 := Aside0.mk (bel_step HB2.out hb3); have HS3 := Aside0.mk (HS2.out.move hb3); have HC3 := Aside0.mk (HC2.out.move hb3); have HR3 := Aside0.mk (Kd.R_below HR2.out hb3); clear hb3))
      have HPL := Aside0.mk (blk_lt HS1.out.ptr)
      have HVL := Aside0.mk (fun k (hk : w1.heap.size ≤ k) => HS1.out.own_lt hk)
      go_loopw [44] (fun i wr => ∃ (k : Nat) (Lk : List Sl), k ≤ os.length ∧ i = .int .i64 k ∧ Aside0 (HasSl wr q x Lk) ∧ Aside0 (HasSl wr p v L) ∧ Aside0 (SlK.R 57 wr 0 (fun k => Apart w p v k ∧ k < w1.heap.size) (.slice A1 L.length c1) L) ∧ Aside0 (∀ x ∈ Lk, WfSl x) ∧ Lk.length ≤ 256 ∧ Aside0 (Below w.heap.size w wr)) (fun i _ => (os.length - intOf i).toNat)
      case atStart => exact ⟨0, L, Nat.zero_le _, rfl, HC3, HS3, HR3, HW1, hn1, HB3⟩
      case round =>
        obtain ⟨k, Lk, hk, rfl, HC, HS, HR, HW, hlk, HB⟩ := hrel
        by_cases hlt : k < os.length
        · obtain ⟨o, hx⟩ : ∃ o, os[k]? = some o := ⟨_, List.getElem?_eq_getElem hlt⟩
          obtain ⟨bb, ob, hB, hcb⟩ := C_at (Kd.C_below HO.out HB.out) (by decide) hx
          subst hB
          have HWO1 := Aside0.mk (HWO.out o (List.mem_of_getElem? hx))
          obtain ⟨z, ⟨s, g⟩, n⟩ := o
          have b0 : wr.cell? ⟨bb, ob + k * 4, none⟩ = some (.int .i64 z) := hcb 0 (by decide)
          have b1 : wr.cell? ⟨bb, ob + k * 4 + 1, none⟩ = some (.int .i64 s) := hcb 1 (by decide)
          have b2 : wr.cell? ⟨bb, ob + k * 4 + 2, none⟩ = some (.int .i64 g) := hcb 2 (by decide)
          have b3 : wr.cell? ⟨bb, ob + k * 4 + 3, none⟩ = some (.int .u64 n) := hcb 3 (by decide)
          clear hcb hx
          go_wp2_with (go_at_call 26; (with_reducible refine (does_calls _ q x Lk z s g n (HC.out.move (below_alloc (Below.refl _ _) _)) HW.out (by omega)).mono ?_); rintro e w5 ⟨rfl, hs5, hf5⟩; have HC5 := Aside0.mk hs5; have HF5 := Aside0.mk hf5; have HB5 := Aside0.mk ((below_alloc HB.out _).trans (hf5.below _ (below_alloc HB.out _).size (fun b hb => Nat.le_trans HB1.out.size (HX2.out b hb)))); clear hs5 hf5)
          refine ⟨⟨k + 1, (doM Lk (z, (s, g), n)).1, by omega, by go_num, HC5, ⟨?_⟩, ⟨?_⟩, ⟨doM_wf HW.out HWO1.out⟩, by rw [doM_len]; exact hlk, HB5⟩, by simp [intOf]; omega⟩
          · refine (HS.out.move (below_alloc (Below.refl _ _) _)).fr HF5.out (fun e => by have := HX2.out _ e; have := HPL.out; omega) (fun j hj e => ?_)
            have h1 := HX2.out _ e
            exact HVL.out j h1 hj
          · exact Kd.R_mono (row_fr (Kd.R_below HR.out (below_alloc (Below.refl _ _) _)) HF5.out (fun j hj e => by have := HX2.out _ e; have := hj.2; omega)) (fun j hj => hj.1)
        · obtain rfl : k = os.length := by omega
          go_wp2_with (first | (go_at_call 13; (with_reducible refine (sl_alive _).mono ?_); rintro e wA ⟨rfl, hbA⟩; have HBA := Aside0.mk (bel_step HB.out hbA); have HSA := Aside0.mk (HS.out.move hbA); have HRA := Aside0.mk (Kd.R_below HR.out hbA); clear hbA) | (go_at_call 25; (with_reducible refine (stands_calls _ p v A1 c1 L HSA.out (rd_of HRA.out) hn1).mono ?_); rintro e wS ⟨rfl, hbS⟩; have HBS := Aside0.mk (bel_step HBA.out hbS); clear hbS))
          go_ret
          exact ⟨rfl, HBS.out⟩
end Go.Proofs.Ytbogfjadmiodkaa.Hand
