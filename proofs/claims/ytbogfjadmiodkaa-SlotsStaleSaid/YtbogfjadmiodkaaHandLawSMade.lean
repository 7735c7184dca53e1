/- SlotsMade, walked. -/
import Derived.Test.YtbogfjadmiodkaaHandLawSAll
namespace Go.Proofs.Ytbogfjadmiodkaa.Hand
open Go.RowKit Go.Proofs.YtbogfjadmiodkaaW.PrintWords
set_option linter.unusedVariables false
set_option linter.unusedSimpArgs false
/-- made, with no script. -/
theorem made_nil (w : World) (A : Option Addr) (c : Nat) (l : List Int) (L : List Sl) (hr : ReadsInt w .u8 A l.length l) (hb : Bys l) (hlen : l.length ≤ 140737488355328) (hd : decM l = some L) :
    Calls Try.prog 22 #[.slice A l.length c, .slice none 0 0] w (MadeRes w L) :=
  made_some w A none c 0 l [] L hr hb hlen hd ⟨rfl, by simp, fun h => absurd h (by simp)⟩ (fun o ho => by cases ho) (by simp)
theorem made_nil_none (w : World) (A : Option Addr) (c : Nat) (l : List Int) (hr : ReadsInt w .u8 A l.length l) (hb : Bys l) (hlen : l.length ≤ 140737488355328) (hd : decM l = none) :
    Calls Try.prog 22 #[.slice A l.length c, .slice none 0 0] w fun e w' => e = .returned (.tuple #[.pointer none, .slice none 0 0, .bool true]) ∧ Below w.heap.size w w' :=
  made_none w A none c 0 l 0 hr hb hlen hd
theorem few_nil (w : World) (A : Option Addr) (n c : Nat) (hn : n ≤ 9223372036854775807) :
    Calls Try.prog 21 #[.slice A n c, .slice none 0 0] w fun e w' => e = .returned (.bool (fewB n 0)) ∧ w = w' := few_calls w A none n c 0 0 hn (by omega)
theorem row_at {e : Nat} {w : World} {ok : Nat → Prop} {A : Option Addr} {n c : Nat} {L : List Sl} {k : Nat} {x : Sl} (h : SlK.R e w 0 ok (.slice A n c) L) (hx : L[k]? = some x) : ∃ g, A = some ⟨g, 0, none⟩ ∧ ok g := by
  rcases flat_slice h with ⟨_, rfl⟩ | ⟨g, cap, hv, _, hok, _⟩
  · simp at hx
  · injection hv with h1
    exact ⟨g, h1, hok⟩
theorem HasSl.putFar {w w0 : World} {p : Nat} {v : Value} {L : List Sl} (h : HasSl w p v L) {g k : Nat} (hg : Apart w0 p v g) (y : Sl) : HasSl (putSl w g k y) p v L :=
  ((h.far ⟨g, k * 3, none⟩ _ (fun e => hg.2.1 e.symm) (fun e => hg.2.2 e.symm)).far ⟨g, k * 3 + 1, none⟩ _ (fun e => hg.2.1 e.symm) (fun e => hg.2.2 e.symm)).far ⟨g, k * 3 + 2, none⟩ _ (fun e => hg.2.1 e.symm) (fun e => hg.2.2 e.symm)
set_option maxHeartbeats 1000000 in
theorem slotsMade_walk (A : Option Addr) (c : Nat) (l : List Int) (n : Int) (w : World) (hr : ReadsInt w .u8 A l.length l) (hb : Bys l) (_y : l.length ≤ 140737488351232) (h3 : (Lit.int .u64 n).wf = true) :
    Calls Try.prog 8 #[.slice A l.length c, .int .u64 n] w fun e w' => e = .returned (.bool true) ∧ Below w.heap.size w w' := by
  have hln : l.length ≤ 9223372036854775807 := by omega
  cases hf : fewB l.length 0 with
  | false =>
    have HF := Aside0.mk hf
    go_enter Try.func8, Try.ntmps8
    go_wp2_with (first | (go_at_call 21; (with_reducible refine (few_nil _ A _ c hln).mono ?_); rw [HF.out]; rintro e wF ⟨rfl, rfl⟩) | (go_at_call 13; (with_reducible refine (sl_alive _).mono ?_); rintro e wA ⟨rfl, hbA⟩; have HBA := Aside0.mk hbA; clear hbA))
    go_ret
    exact ⟨rfl, HBA.out⟩
  | true =>
    have HF := Aside0.mk hf
    obtain ⟨h1, _⟩ := fewB_le hf
    cases hd : decM l with
    | none =>
      have HM := Aside0.mk (made_nil_none w A c l hr hb (by omega) hd)
      clear hr hb hf hd
      go_enter Try.func8, Try.ntmps8
      go_wp2_with (first | (go_at_call 21; (with_reducible refine (few_nil _ A _ c hln).mono ?_); rw [HF.out]; rintro e wF ⟨rfl, rfl⟩) | (go_at_call 22; (with_reducible refine HM.out.mono ?_); rintro e w1 ⟨rfl, hb1⟩; have HB1 := Aside0.mk hb1; clear hb1) | (go_at_call 13; (with_reducible refine (sl_alive _).mono ?_); rintro e wA ⟨rfl, hbA⟩; have HBA := Aside0.mk hbA; clear hbA))
      go_ret
      exact ⟨rfl, bel_step HB1.out HBA.out⟩
    | some L =>
      have HM := Aside0.mk (made_nil w A c l L hr hb (by omega) hd)
      clear hr hb hf hd
      cases hk : L.findIdx? freeP with
      | none =>
        have HK := Aside0.mk hk
        clear hk
        go_enter Try.func8, Try.ntmps8
        go_wp2_with (first | (go_at_call 21; (with_reducible refine (few_nil _ A _ c hln).mono ?_); rw [HF.out]; rintro e wF ⟨rfl, rfl⟩) | (go_at_call 22; (with_reducible refine HM.out.mono ?_); rintro e w1 ⟨p, v, u, rfl, hs1, hr1, hp1, hv1, hw1, hn1, hb1⟩; have HB1 := Aside0.mk hb1; have HS1 := Aside0.mk hs1; have HR1 := Aside0.mk hr1; have HW1 := Aside0.mk hw1; have HV1 := Aside0.mk hv1; have HP1 := Aside0.mk hp1; obtain ⟨A1, c1, hu1, _, _⟩ := flat_reads hr1; subst hu1; clear hb1 hs1 hr1 hp1 hv1 hw1) | (go_at_call 30; (with_reducible refine (make_none _ p v L n HS1.out HK.out (by omega)).mono ?_); rintro e w2 ⟨rfl, hb2⟩; have HB2 := Aside0.mk (bel_step HB1.out hb2); have HS2 := Aside0.mk (HS1.out.move hb2); have HR2 := Aside0.mk (Kd.R_below HR1.out hb2); clear hb2) | (go_at_call 13; (with_reducible refine (sl_alive _).mono ?_); rintro e wA ⟨rfl, hbA⟩; have HBA := Aside0.mk (bel_step (below_alloc HB2.out _) hbA); have HSA := Aside0.mk ((HS2.out.move (below_alloc (Below.refl _ _) _)).move hbA); have HRA := Aside0.mk (Kd.R_below (Kd.R_below HR2.out (below_alloc (Below.refl _ _) _)) hbA); clear hbA) | (go_at_call 25; (with_reducible refine (stands_calls _ p v A1 c1 L HSA.out (rd_of HRA.out) hn1).mono ?_); rintro e wS ⟨rfl, hbS⟩; have HBS := Aside0.mk (bel_step HBA.out hbS); clear hbS))
        go_ret
        exact ⟨rfl, HBS.out⟩
      | some k =>
        have HK := Aside0.mk hk
        obtain ⟨g1, g2, _⟩ := List.findIdx?_eq_some_iff_getElem.1 hk
        obtain ⟨x, hx⟩ : ∃ x, L[k]? = some x := ⟨_, List.getElem?_eq_getElem g1⟩
        have hfx : freeP x = true := by
          rw [List.getElem?_eq_getElem g1] at hx
          injection hx with hx
          rw [← hx]
          exact g2
        obtain ⟨hfu, hfg⟩ : x.2.1 = false ∧ x.1 < 65535 := by simpa [freeP] using hfx
        have HX := Aside0.mk hx
        have HFU := Aside0.mk hfu
        clear hk hx hfx g2 hfu
        go_enter Try.func8, Try.ntmps8
        go_wp2_with (first | (go_at_call 21; (with_reducible refine (few_nil _ A _ c hln).mono ?_); rw [HF.out]; rintro e wF ⟨rfl, rfl⟩) | (go_at_call 22; (with_reducible refine HM.out.mono ?_); rintro e w1 ⟨p, v, u, rfl, hs1, hr1, hp1, hv1, hw1, hn1, hb1⟩; have HB1 := Aside0.mk hb1; have HS1 := Aside0.mk hs1; have HR1 := Aside0.mk hr1; have HW1 := Aside0.mk hw1; have HV1 := Aside0.mk hv1; have HP1 := Aside0.mk hp1; obtain ⟨A1, c1, hu1, _, _⟩ := flat_reads hr1; subst hu1; clear hb1 hs1 hr1 hp1 hv1 hw1) | (go_at_call 30; have hx0 : 0 ≤ x.1 := (HW1.out x (List.mem_of_getElem? HX.out)).1.1; (with_reducible refine (make_some _ p v L n k x HS1.out HK.out HX.out hx0).mono ?_); rintro e w2 ⟨rfl, hs2, hf2⟩; have HB2 := Aside0.mk (HB1.out.trans (hf2.below _ HB1.out.size HV1.out)); have HS2 := Aside0.mk hs2; have HR2 := Aside0.mk (Kd.R_mono (row_fr HR1.out hf2 (fun k hk => hk.2.2)) (fun k hk => hk.1)); clear hs2 hf2) | (go_at_call 27; (with_reducible refine (get_good _ p v (L.set k (x.1 + 1, true, n)) k (x.1 + 1, true, n) (HS2.out.move (below_alloc (Below.refl _ _) _)) (List.getElem?_set_self g1) rfl).mono ?_); rintro e w3 ⟨rfl, hb3⟩; have HB3 := Aside0.mk (bel_step (below_alloc HB2.out _) hb3); have HS3 := Aside0.mk ((HS2.out.move (below_alloc (Below.refl _ _) _)).move hb3); have HR3 := Aside0.mk (Kd.R_below (Kd.R_below HR2.out (below_alloc (Below.refl _ _) _)) hb3); have Xh := Aside0.mk ((Bx.new w2 k (x.1 + 1)).below hb3); have xh0 := Xh.out.c0; have xh1 := Xh.out.c1; clear hb3))
        obtain ⟨g, rfl, hap⟩ := row_at HR3.out HX.out
        obtain ⟨⟨d0, d1, d2⟩, f0, f1, f2⟩ := R_cells HR3.out HX.out
        rw [HFU.out] at d1
        have hwr : IntKind.i64.wrap (x.1 + 1) = x.1 + 1 := IntWalk.i64_in _ (by omega)
        have HC := Aside0.mk (show ∀ W, Below w3.heap.size w3 W → W.cell? ⟨w2.heap.size, 0, none⟩ = some (.int .i64 k) ∧ W.cell? ⟨w2.heap.size, 1, none⟩ = some (.int .i64 (x.1 + 1)) from fun W hW => ⟨(Xh.out.below hW).c0, (Xh.out.below hW).c1⟩)
        go_quiet (fail)
        have HS4 := Aside0.mk (show HasSl (putSl (w3.drewN nq) g k (x.1 + 1, true, n)) p v (L.set k (x.1 + 1, true, n)) from (HS3.out.move (pw_below_drewN (Below.refl _ _) _)).putFar hap _)
        have HR4 := Aside0.mk (show SlK.R 57 (putSl (w3.drewN nq) g k (x.1 + 1, true, n)) 0 (Apart w p v) (.slice (some ⟨g, 0, none⟩) L.length c1) (L.set k (x.1 + 1, true, n)) from R_putSl (Kd.R_below HR3.out (pw_below_drewN (Below.refl _ _) _)) HX.out _)
        have HB4 := Aside0.mk (show Below w.heap.size w (putSl (w3.drewN nq) g k (x.1 + 1, true, n)) from bel_put1 (pw_below_drewN HB3.out _) hap.1 _)
        go_wp2_with (first | (go_at_call 13; (with_reducible refine (sl_alive _).mono ?_); rintro e wA ⟨rfl, hbA⟩; have HBA := Aside0.mk (bel_step HB4.out hbA); have HSA := Aside0.mk (HS4.out.move hbA); have HRA := Aside0.mk (Kd.R_below HR4.out hbA); clear hbA) | (go_at_call 25; have hcs := stands_calls wA p v (some ⟨g, 0, none⟩) c1 (L.set k (x.1 + 1, true, n)) HSA.out (rd_of (by rw [List.length_set]; exact HRA.out)) (by rw [List.length_set]; exact hn1); (rw [List.length_set] at hcs); (with_reducible refine hcs.mono ?_); rintro e wS ⟨rfl, hbS⟩; have HBS := Aside0.mk (bel_step HBA.out hbS); clear hbS))
        go_ret
        exact ⟨rfl, HBS.out⟩
end Go.Proofs.Ytbogfjadmiodkaa.Hand
