/- SlotsFirst, walked. -/
import Derived.Test.YtbogfjadmiodkaaHandSlPlain
import Derived.Test.YtbogfjadmiodkaaHandLawSMade
namespace Go.Proofs.Ytbogfjadmiodkaa.Hand
open Go.RowKit Go.Proofs.YtbogfjadmiodkaaW.PrintWords
set_option linter.unusedVariables false
set_option linter.unusedSimpArgs false
/-- The first free slot from a place on; -1: there is none. -/
def wantM (L : List Sl) (j : Nat) : Int := match (L.drop j).findIdx? freeP with | some i => (j : Int) + i | none => -1
theorem wantM_end (L : List Sl) : wantM L L.length = -1 := by rw [wantM, List.drop_length]; rfl
theorem wantM_step {L : List Sl} {j : Nat} {x : Sl} (hx : L[j]? = some x) : wantM L j = if freeP x then (j : Int) else wantM L (j + 1) := by
  obtain ⟨hl, rfl⟩ := List.getElem?_eq_some_iff.1 hx
  rw [wantM, wantM, List.drop_eq_getElem_cons hl, List.findIdx?_cons]
  split
  · rename_i i hi
    split at hi
    · rename_i hf
      injection hi with hi
      rw [if_pos hf, ← hi]
      omega
    · rename_i hf
      rw [if_neg hf]
      obtain ⟨a, ha, rfl⟩ := Option.map_eq_some_iff.1 hi
      rw [ha]
      simp only
      omega
  · rename_i hi
    split at hi
    · cases hi
    · rename_i hf
      rw [if_neg hf, Option.map_eq_none_iff.1 hi]
theorem wantM_zero (L : List Sl) : wantM L 0 = match L.findIdx? freeP with | some i => (i : Int) | none => -1 := by
  rw [wantM, List.drop_zero]
  cases L.findIdx? freeP with
  | some i => simp
  | none => rfl
/-- Of slots that are not used none has changed. -/
def Kept (L0 L : List Sl) : Prop := L.length = L0.length ∧ ∀ (j : Nat) (x : Sl), L[j]? = some x → x.2.1 = false → L0[j]? = some x
theorem Kept.make {L0 L : List Sl} (h : Kept L0 L) (k : Nat) (y : Sl) (hy : y.2.1 = true) : Kept L0 (L.set k y) := by
  refine ⟨by rw [List.length_set]; exact h.1, fun j x hx hu => ?_⟩
  rw [List.getElem?_set] at hx
  split at hx
  · split at hx
    · injection hx with hx
      rw [← hx, hy] at hu
      cases hu
    · cases hx
  · exact h.2 j x hx hu
theorem count_make {L : List Sl} {k : Nat} {x y : Sl} (hx : L[k]? = some x) (hf : freeP x = true) (hy : freeP y = false) : L.countP freeP = (L.set k y).countP freeP + 1 := by
  induction L generalizing k with
  | nil => simp at hx
  | cons z L ih =>
    cases k with
    | zero =>
      obtain rfl : z = x := by simpa using hx
      simp [hf, hy]
    | succ k =>
      have := ih (k := k) (by simpa using hx)
      simp only [List.set_cons_succ, List.countP_cons, this]
      omega
set_option maxHeartbeats 1000000 in
theorem slotsFirst_walk (A : Option Addr) (c : Nat) (l : List Int) (w : World) (hr : ReadsInt w .u8 A l.length l) (hb : Bys l) (_y : l.length ≤ 140737488351232) :
    Calls Try.prog 10 #[.slice A l.length c] w fun e w' => e = .returned (.bool true) ∧ Below w.heap.size w w' := by
  have hln : l.length ≤ 9223372036854775807 := by omega
  cases hf : fewB l.length 0 with
  | false =>
    have HF := Aside0.mk hf
    go_enter Try.func10, Try.ntmps10
    go_wp2_with (first | (go_at_call 21; (with_reducible refine (few_nil _ A _ c hln).mono ?_); rw [HF.out]; rintro e wF ⟨rfl, rfl⟩) | (go_at_call 13; (with_reducible refine (sl_alive _).mono ?_); rintro e wA ⟨rfl, hbA⟩; have HBA := Aside0.mk hbA; clear hbA))
    go_ret
    exact ⟨rfl, HBA.out⟩
  | true =>
    have HF := Aside0.mk hf
    obtain ⟨h1, _⟩ := fewB_le hf
    cases hd : decM l with
    | none =>
      have HM := Aside0.mk (made_nil_none w A c l hr hb (by omega) hd)
      clear hr hb hf hd
      go_enter Try.func10, Try.ntmps10
      go_wp2_with (first | (go_at_call 21; (with_reducible refine (few_nil _ A _ c hln).mono ?_); rw [HF.out]; rintro e wF ⟨rfl, rfl⟩) | (go_at_call 22; (with_reducible refine HM.out.mono ?_); rintro e w1 ⟨rfl, hb1⟩; have HB1 := Aside0.mk hb1; clear hb1) | (go_at_call 13; (with_reducible refine (sl_alive _).mono ?_); rintro e wA ⟨rfl, hbA⟩; have HBA := Aside0.mk hbA; clear hbA))
      go_ret
      exact ⟨rfl, bel_step HB1.out HBA.out⟩
    | some L =>
      have HM := Aside0.mk (made_nil w A c l L hr hb (by omega) hd)
      clear hr hb hf hd
      go_enter Try.func10, Try.ntmps10
      go_wp2_with (first | (go_at_call 21; (with_reducible refine (few_nil _ A _ c hln).mono ?_); rw [HF.out]; rintro e wF ⟨rfl, rfl⟩) | (go_at_call 22; (with_reducible refine HM.out.mono ?_); rintro e w1 ⟨p, v, u, rfl, hs1, hr1, hp1, hv1, hw1, hn1, hb1⟩; have HB1 := Aside0.mk hb1; have HS1 := Aside0.mk hs1; have HR1 := Aside0.mk hr1; have HW1 := Aside0.mk hw1; have HV1 := Aside0.mk hv1; have HP1 := Aside0.mk hp1; obtain ⟨A1, c1, hu1, _, _⟩ := flat_reads hr1; subst hu1; clear hb1 hs1 hr1 hp1 hv1 hw1))
      go_loopw [35] (fun i wr => ∃ (r : Nat) (Lc : List Sl), i = .int .i64 r ∧ Aside0 (HasSl wr p v Lc) ∧ Aside0 (SlK.R 57 wr 0 (Apart w p v) (.slice A1 L.length c1) L) ∧ Aside0 (Kept L Lc) ∧ Aside0 (∀ x ∈ Lc, WfSl x) ∧ r + Lc.countP freeP ≤ L.length ∧ Aside0 (Below w.heap.size w wr)) (fun i _ => (L.length + 1 - intOf i).toNat)
      case atStart => exact ⟨0, L, rfl, HS1, HR1, ⟨⟨rfl, fun j x hx _ => hx⟩⟩, HW1, by have := List.countP_le_length (p := freeP) (l := L); omega, HB1⟩
      case round =>
        obtain ⟨r, Lc, rfl, HS, HR, HK, HW, hrc, HB⟩ := hrel
        have hrl : r ≤ L.length := by omega
        have HRC := Aside0.mk hrc
        have hlc : Lc.length = L.length := HK.out.1
        have HLC := Aside0.mk hlc
        have hrd : decide ((r : Int) < (L.length : Int) + 1) = true := decide_eq_true (by omega)
        clear hrc hlc
        go_wp2
        go_loopw [6, 7] (fun a i wi => ∃ (j : Nat) (z : Int), j ≤ L.length ∧ i = .int .i64 ((j : Int) - 1) ∧ a = .int .i64 z ∧ (-1 ≤ z ∧ z ≤ 256) ∧ Aside0 (z = wantM Lc j) ∧ Aside0 (HasSl wi p v Lc) ∧ Aside0 (SlK.R 57 wi 0 (Apart w p v) (.slice A1 L.length c1) L) ∧ Aside0 (Below w.heap.size w wi)) (fun _ i _ => (intOf i + 1).toNat)
        case atStart => exact ⟨L.length, -1, Nat.le_refl _, rfl, rfl, ⟨by omega, by omega⟩, ⟨by rw [← HLC.out]; exact (wantM_end Lc).symm⟩, HS, HR, HB⟩
        case round =>
          obtain ⟨j, z, hj, rfl, rfl, ⟨hz0, hz1⟩, HZ, HSi, HRi, HBi⟩ := hrel
          cases j with
          | zero =>
            rw [wantM_zero] at HZ
            cases hk : Lc.findIdx? freeP with
            | none =>
              rw [hk] at HZ
              obtain rfl : z = -1 := HZ.out
              have HKN := Aside0.mk hk
              clear hk HZ
              go_wp2_with (first | (go_at_call 30; have hll : Lc.length ≤ 65536 := (by have := HLC.out; omega); (with_reducible refine (make_none wr p v Lc 1 HSi.out HKN.out hll).mono ?_); rintro e w2 ⟨rfl, hb2⟩; have HB2 := Aside0.mk (bel_step HBi.out hb2); clear hb2) | (go_at_call 13; (with_reducible refine (sl_alive _).mono ?_); rintro e wA ⟨rfl, hbA⟩; have HBA := Aside0.mk (bel_step (below_alloc HB2.out _) hbA); clear hbA))
              go_ret
              exact ⟨rfl, HBA.out⟩
            | some k =>
              rw [hk] at HZ
              obtain rfl : z = (k : Int) := HZ.out
              obtain ⟨g1, g2, g3⟩ := List.findIdx?_eq_some_iff_getElem.1 hk
              obtain ⟨x, hx⟩ : ∃ x, Lc[k]? = some x := ⟨_, List.getElem?_eq_getElem g1⟩
              have hfx : freeP x = true := by
                rw [List.getElem?_eq_getElem g1] at hx
                injection hx with hx
                rw [← hx]
                exact g2
              have HFX := Aside0.mk hfx
              have HKN := Aside0.mk hk
              have HX := Aside0.mk hx
              have HX0 := Aside0.mk (show 0 ≤ x.1 from (HW.out x (List.mem_of_getElem? hx)).1.1)
              have HGL := Aside0.mk (show x.1 < 65535 by have := hfx; simp only [freeP, Bool.and_eq_true, decide_eq_true_eq] at this; exact this.2)
              clear hk hx hfx g3 g2 g1
              go_wp2_with (first | (go_at_call 30; (with_reducible refine (make_some wr p v Lc 1 k x HSi.out HKN.out HX.out HX0.out).mono ?_); rintro e w2 ⟨rfl, hs2, hf2⟩; have HB2 := Aside0.mk (HBi.out.trans (hf2.below _ HBi.out.size HV1.out)); have HS2 := Aside0.mk hs2; have HR2 := Aside0.mk (Kd.R_mono (row_fr HRi.out hf2 (fun k hk => hk.2.2)) (fun k hk => hk.1)); clear hs2 hf2))
              have hcm := count_make (y := (x.1 + 1, true, 1)) HX.out HFX.out (by simp [freeP])
              refine ⟨⟨r + 1, Lc.set k (x.1 + 1, true, 1), by go_num, ⟨HS2.out.move (below_alloc (Below.refl _ _) _)⟩, ⟨Kd.R_below HR2.out (below_alloc (Below.refl _ _) _)⟩, ⟨HK.out.make k _ rfl⟩, ⟨fun y hy => ?_⟩, by have := HRC.out; omega, ⟨below_alloc HB2.out _⟩⟩, by simp [intOf]; omega⟩
              rcases List.mem_or_eq_of_mem_set hy with hy | rfl
              · exact HW.out y hy
              · have h5 := HX0.out
                have h6 := HGL.out
                exact ⟨⟨by simp only; omega, by simp only; omega⟩, by simp only; omega, by simp only; omega⟩
          | succ j =>
            obtain ⟨x, hx⟩ : ∃ x, Lc[j]? = some x := ⟨_, List.getElem?_eq_getElem (by have := HLC.out; omega)⟩
            obtain ⟨y, hy⟩ : ∃ y, L[j]? = some y := ⟨_, List.getElem?_eq_getElem (by omega)⟩
            have HX := Aside0.mk hx
            have HY := Aside0.mk hy
            clear hx hy
            cases hu : x.2.1 with
            | true =>
              have HA := Aside0.mk (atV_some (L := Lc) (atM_used HX.out hu))
              have HST := Aside0.mk (show z = wantM Lc j by rw [wantM_step HX.out, if_neg (by simp [freeP, hu])]; exact HZ.out)
              clear hu
              go_wp2_with (go_at_call 32; (with_reducible refine (at_calls _ p v Lc j HSi.out).mono ?_); rw [HA.out]; rintro e w2 ⟨rfl, hb2⟩; have HB2 := Aside0.mk (below_alloc (bel_step HBi.out hb2) (Obj.cells #[Value.int IntKind.i64 j, Value.int IntKind.i64 x.1] 23)); have HS2 := Aside0.mk ((HSi.out.move hb2).move (below_alloc (Below.refl _ _) (Obj.cells #[Value.int IntKind.i64 j, Value.int IntKind.i64 x.1] 23))); have HR2 := Aside0.mk (Kd.R_below (Kd.R_below HRi.out hb2) (below_alloc (Below.refl _ _) (Obj.cells #[Value.int IntKind.i64 j, Value.int IntKind.i64 x.1] 23))); clear hb2)
              go_roundw
              case rel => exact ⟨j, z, by omega, by go_num, rfl, ⟨by omega, by omega⟩, HST, HS2, HR2, HB2⟩
              case measure => (simp [intOf]) <;> omega
            | false =>
              have HA := Aside0.mk (atV_none (L := Lc) (atM_free HX.out hu))
              obtain rfl : y = x := by
                have := HK.out.2 j x HX.out hu
                rw [HY.out] at this
                exact Option.some.inj this
              by_cases hg : y.1 < 65535
              · have HST := Aside0.mk (show (j : Int) = wantM Lc j by rw [wantM_step HX.out, if_pos (by simp [freeP, hu, hg])])
                clear hu
                go_wp2_with (go_at_call 32; (with_reducible refine (at_calls _ p v Lc j HSi.out).mono ?_); rw [HA.out]; rintro e w2 ⟨rfl, hb2⟩; have HB2 := Aside0.mk (below_alloc (bel_step HBi.out hb2) (Obj.cells #[Value.int IntKind.i64 0, Value.int IntKind.i64 0] 23)); have HS2 := Aside0.mk ((HSi.out.move hb2).move (below_alloc (Below.refl _ _) (Obj.cells #[Value.int IntKind.i64 0, Value.int IntKind.i64 0] 23))); have HR2 := Aside0.mk (Kd.R_below (Kd.R_below HRi.out hb2) (below_alloc (Below.refl _ _) (Obj.cells #[Value.int IntKind.i64 0, Value.int IntKind.i64 0] 23))); obtain ⟨g, hA1, _⟩ := row_at HRi.out HY.out; subst hA1; obtain ⟨⟨d0, _, _⟩, _⟩ := R_cells (Kd.R_below HRi.out hb2) HY.out; have e0 := cell_alloc d0; clear d0; clear hb2)
                go_roundw
                case rel => exact ⟨j, j, by omega, by go_num, rfl, ⟨by omega, by omega⟩, HST, HS2, HR2, HB2⟩
                case measure => (simp [intOf]) <;> omega
              · have HST := Aside0.mk (show z = wantM Lc j by rw [wantM_step HX.out, if_neg (by simp [freeP, hu, hg])]; exact HZ.out)
                clear hu
                go_wp2_with (go_at_call 32; (with_reducible refine (at_calls _ p v Lc j HSi.out).mono ?_); rw [HA.out]; rintro e w2 ⟨rfl, hb2⟩; have HB2 := Aside0.mk (below_alloc (bel_step HBi.out hb2) (Obj.cells #[Value.int IntKind.i64 0, Value.int IntKind.i64 0] 23)); have HS2 := Aside0.mk ((HSi.out.move hb2).move (below_alloc (Below.refl _ _) (Obj.cells #[Value.int IntKind.i64 0, Value.int IntKind.i64 0] 23))); have HR2 := Aside0.mk (Kd.R_below (Kd.R_below HRi.out hb2) (below_alloc (Below.refl _ _) (Obj.cells #[Value.int IntKind.i64 0, Value.int IntKind.i64 0] 23))); obtain ⟨g, hA1, _⟩ := row_at HRi.out HY.out; subst hA1; obtain ⟨⟨d0, _, _⟩, _⟩ := R_cells (Kd.R_below HRi.out hb2) HY.out; have e0 := cell_alloc d0; clear d0; clear hb2)
                go_roundw
                case rel => exact ⟨j, z, by omega, by go_num, rfl, ⟨by omega, by omega⟩, HST, HS2, HR2, HB2⟩
                case measure => (simp [intOf]) <;> omega
end Go.Proofs.Ytbogfjadmiodkaa.Hand
