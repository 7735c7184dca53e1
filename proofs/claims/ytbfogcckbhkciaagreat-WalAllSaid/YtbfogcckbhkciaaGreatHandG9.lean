/- What a claim needs of the walks and contracts, part 9. -/
import Derived.Test.YtbfogcckbhkciaaGreatHandG8
namespace Go.Proofs.YtbfogcckbhkciaaGreat.Hand
set_option linter.unusedVariables false
set_option linter.unusedSimpArgs false
open Go.RowKit Go.Maps Go.Proofs.YtbfogcckbhkciaaGreatW.PrintWords Go.Proofs.YtbfogcckbhkciaaGreatW.PrintLast Go.Proofs.YtbfogcckbhkciaaGreatW.PrintMore Go.Proofs.YtbfogcckbhkciaaGreat.PHandRP
set_option linter.unusedVariables false
set_option linter.unusedSimpArgs false
theorem madeA_below {w w' : World} {e : Ending} (h : MadeW w e w') : Below w.heap.size w w' := by
  rcases h with ⟨_, hb⟩ | ⟨_, _, _, _, _, _, _, _, _, _, _, _, _, _, _, _, hb⟩ <;> exact hb
theorem three_waysW {w : World} {T : Nat → Prop} {q p : Nat} {u : Value} {s f : Nat} {d : Dev} {x : StepW} {m : StepM} (h : HasD w p u s f d) (hq : w.cell? ⟨q, 0, none⟩ = some (.pointer (some ⟨p, 0, none⟩))) (hst : IsW w T q p x m) (hok : OkM m) :
    (∃ x1 x2 x3, x = .wr x1 x2 x3 ∧ Aside0 (Calls Tryz.prog 71 #[.pointer (some ⟨x1, 0, none⟩), .pointer (some ⟨x2, 0, none⟩), .pointer (some ⟨x3, 0, none⟩)] w (StepsW w p u s f d m))) ∨
    (∃ x1 x2 x3, x = .fl x1 x2 x3 ∧ Aside0 (Calls Tryz.prog 72 #[.pointer (some ⟨x1, 0, none⟩), .pointer (some ⟨x2, 0, none⟩), .pointer (some ⟨x3, 0, none⟩)] w (StepsW w p u s f d m))) ∨
    (x = .fe p ∧ Aside0 (Calls Tryz.prog 47 #[.pointer (some ⟨p, 0, none⟩)] w (StepsW w p u s f d m))) := by
  cases x with
  | wr bd ba bx =>
    cases m with
    | wr a y => exact .inl ⟨bd, ba, bx, rfl, ⟨stepW_wr w q p u s f d _ bd ba bx a y h hq hst hok⟩⟩
    | fl a n => exact hst.elim
    | fe => exact hst.elim
  | fl bd ba bn =>
    cases m with
    | fl a n => exact .inr (.inl ⟨bd, ba, bn, rfl, ⟨stepW_fl w q p u s f d _ bd ba bn a n h hq hst⟩⟩)
    | wr a n => exact hst.elim
    | fe => exact hst.elim
  | fe r =>
    cases m with
    | fe =>
      obtain rfl : r = p := hst
      exact .inr (.inr ⟨rfl, ⟨stepW_fe w r u s f d h⟩⟩)
    | wr a n => exact hst.elim
    | fl a n => exact hst.elim
set_option maxRecDepth 100000 in
set_option maxHeartbeats 8000000 in
theorem wall_go (A0 : Option Addr) (c0 : Nat) (B : List Int) (A1 : Option Addr) (c1 : Nat) (os : List OpP) (a k : Int) (A5 : Option Addr) (c5 : Nat) (sets : List SetT) (w : World) (hB : ReadsInt w .u8 A0 B.length B) (hby : Bys B) (ho : PoK.C w A1 os.length os) (hw : ∀ o ∈ os, WfPo w o) (hck : ∀ o ∈ os, o.ks.length ≤ o.c2)
    (ha : -9223372036854775808 ≤ a ∧ a ≤ 9223372036854775807) (hk : -9223372036854775808 ≤ k ∧ k ≤ 9223372036854775807) (hs : SetK.C w A5 sets.length sets) (hws : ∀ x ∈ sets, WfSt x) : Calls Tryz.prog 3 #[.agg #[.slice A0 B.length c0, .slice A1 os.length c1, .int .i64 a, .int .i64 k], .slice A5 sets.length c5] w fun e w' => e = .returned (.bool true) ∧ Below w.heap.size w w' := by
  have HMD := Aside0.mk (fun (W : World) (hW : Below w.heap.size w W) => made4_calls W A0 c0 B A1 c1 os (hB.below hW) hby (Kd.C_below ho hW) (fun o h => (hw o h).below hW) hck)
  obtain ⟨wa, hwa⟩ : ∃ wa, wa = w.alloc (.cells #[.slice A0 B.length c0, .slice A1 os.length c1, .int .i64 a, .int .i64 k] 27) := ⟨_, rfl⟩
  have HNB := Aside0.mk (show wa.heap[w.heap.size]? = some (.cells #[.slice A0 B.length c0, .slice A1 os.length c1, .int .i64 a, .int .i64 k] 27 (0, 0)) from by rw [hwa]; exact heap_alloc_new w _)
  have HBA := Aside0.mk (show Below w.heap.size w wa from by rw [hwa]; exact below_alloc (Below.refl _ _) _)
  have HLT := Aside0.mk (show w.heap.size < wa.heap.size from by rw [hwa, World.size_alloc]; omega)
  have HAK := Aside0.mk (And.intro ha hk)
  have HSS := Aside0.mk hs
  have HWS := Aside0.mk hws
  have hsl := hs.2.1
  clear hB hby ho hw hck ha hk hs hws
  go_enter Tryz.func3, Tryz.ntmps3
  by_cases hbig : 50 < sets.length
  · have hbg : ((50 : Int) < (sets.length : Int)) := by omega
    go_wp2_with (go_at_call 4; (rw [← hwa]; (with_reducible refine (HMD.out _ HBA.out).mono ?_); rintro e w1 hm; have hbm := madeA_below hm; have q2 : w1.cell? ⟨w.heap.size, 2, none⟩ = some (.int .i64 a) := bel_cell hbm (blk_cell HNB.out (i := 2) rfl); have q3 : w1.cell? ⟨w.heap.size, 3, none⟩ = some (.int .i64 k) := bel_cell hbm (blk_cell HNB.out (i := 3) rfl); clear hbm; rcases hm with ⟨rfl, hb⟩ | ⟨p, u, s, f, v, d, n, b, rfl, hd, hl, hv, how, hbs, hp, hv1, hb1⟩))
    · have HB1 := Aside0.mk (bel_step HBA.out hb)
      go_wp2_with (go_at_call 5; ((with_reducible refine (wal_alive _).mono ?_); rintro e w2 ⟨rfl, hb⟩; have HB2 := Aside0.mk (bel_step HB1.out hb); clear hb))
      go_ret
      exact ⟨rfl, HB2.out⟩
    · have HB1 := Aside0.mk (bel_step HBA.out hb1)
      go_wp2_with (go_at_call 5; ((with_reducible refine (wal_alive _).mono ?_); rintro e w2 ⟨rfl, hb⟩; have HB2 := Aside0.mk (bel_step HB1.out hb); clear hb))
      go_ret
      exact ⟨rfl, HB2.out⟩
  have hbg : ¬ ((50 : Int) < (sets.length : Int)) := by omega
  go_wp2_with (go_at_call 4; (rw [← hwa]; (with_reducible refine (HMD.out _ HBA.out).mono ?_); rintro e w1 hm; have hbm := madeA_below hm; have q2 : w1.cell? ⟨w.heap.size, 2, none⟩ = some (.int .i64 a) := bel_cell hbm (blk_cell HNB.out (i := 2) rfl); have q3 : w1.cell? ⟨w.heap.size, 3, none⟩ = some (.int .i64 k) := bel_cell hbm (blk_cell HNB.out (i := 3) rfl); clear hbm; rcases hm with ⟨rfl, hb⟩ | ⟨p, u, s, f, v, d, n, b, rfl, hd, hl, hv, how, hbs, hp, hv1, hb1⟩))
  · have HB1 := Aside0.mk (bel_step HBA.out hb)
    go_wp2_with (go_at_call 5; ((with_reducible refine (wal_alive _).mono ?_); rintro e w2 ⟨rfl, hb⟩; have HB2 := Aside0.mk (bel_step HB1.out hb); clear hb))
    go_ret
    exact ⟨rfl, HB2.out⟩
  have hn : n ≤ 8192 := by have := hd.ok.max; omega
  have h8 : d.B.length / 8 = n := by omega
  obtain ⟨A, c, rfl⟩ := Kd.V_slice hv
  rw [wdL_length] at hv ⊢
  have HB1 := Aside0.mk (bel_step HBA.out hb1)
  have HD1 := Aside0.mk hd
  have HV1 := Aside0.mk hv
  have HL := Aside0.mk hl
  have HOW := Aside0.mk how
  have HBS := Aside0.mk hbs
  have HOB := Aside0.mk (show ∀ b, OwnD u s f b → w.heap.size ≤ b from fun b hb => Nat.le_trans (Nat.le_of_lt HLT.out) (hv1 b hb))
  have HNX := Aside0.mk (show ¬ OwnD u s f w.heap.size from fun ho => by have := hv1 _ ho; have := HLT.out; omega)
  have HIN := Aside0.mk (fun (W : World) => rinside_calls W A n c a k hn HAK.out.1 HAK.out.2)
  clear hd hl hv how hbs hp hv1 hb1
  by_cases he : inR n a k = 0
  · obtain ⟨hk1, ha0, hak⟩ : 1 ≤ k ∧ 0 ≤ a ∧ a + k ≤ n := inR_ok he
    obtain ⟨a, rfl⟩ := Int.eq_ofNat_of_zero_le ha0
    obtain ⟨k, rfl⟩ := Int.eq_ofNat_of_zero_le (show 0 ≤ k by omega)
    rw [he] at HIN
    have hk0 : 1 ≤ k := by omega
    have hak0 : a + k ≤ n := by omega
    have HOP := Aside0.mk (open4_good w1 p u s f d a k HD1.out hk0 (by rw [h8]; exact hak0))
    have HRH := Aside0.mk (fun (W : World) (hW : RowV W b (.slice A n c) d n) => rhas_calls W b n (.slice A n c) d a k HD1.out.ok HL.out hW hk0 hak0)
    have hsq := (recD_sets HD1.out.ok hk0 (a := a) (by rw [h8]; exact hak0))
    obtain ⟨sq, hsqe⟩ : ∃ sq : Nat, (recD d a k).1 = sq := ⟨(recD d a k).1.toNat, by have := hsq.2.1; omega⟩
    have hsq1 : sq < 4294967296 := by have := hsq.2.2.1; omega
    obtain ⟨rv, hrv⟩ : ∃ rv, recD d a k = rv := ⟨_, rfl⟩
    rw [hrv] at HOP HRH hsqe
    obtain ⟨r1, r2⟩ := rv
    simp only at hsqe
    subst hsqe
    obtain ⟨r, hr⟩ : ∃ r : Nat, r = (k - 1) / 2 := ⟨_, rfl⟩
    have hk8 : k ≤ 8192 := by omega
    have hwr1 : IntKind.i64.wrap ((sq : Int) + 1) = (sq : Int) + 1 := IntWalk.i64_in _ (by omega)
    have hwr2 : IntKind.i64.wrap ((sq : Int) + 2) = (sq : Int) + 2 := IntWalk.i64_in _ (by omega)
    have HRM := Aside0.mk (fun (W : World) => show Calls Tryz.prog 10 #[.agg #[.int .i64 a, .int .i64 k]] W (fun e w' => e = .returned (.int .i64 (r : Nat)) ∧ Below W.heap.size W w') from by have := rroom_calls W a k (by omega); rw [show ((k : Int) - 1) / 2 = (r : Nat) by omega] at this; exact this)
    have HLM := Aside0.mk (fun (W : World) (q : Nat) (hl : HasL W q p a k (sq + 1)) => show Calls Tryz.prog 9 #[.pointer (some ⟨q, 0, none⟩)] W (fun e w' => e = .returned (.int .i64 (r : Nat)) ∧ W = w') from by have := room4_calls W q p a k (sq + 1) hl hk0 hk8; rw [← hr] at this; exact this)
    have HLS := Aside0.mk (fun (W : World) (q : Nat) (hl : HasL W q p a k (sq + 1)) => show Calls Tryz.prog 11 #[.pointer (some ⟨q, 0, none⟩)] W (fun e w' => e = .returned (.int .i64 ((sq : Int) + 1)) ∧ W = w') from seq4_calls W q p a k (sq + 1) hl)
    have HLT2 := Aside0.mk (fun (W : World) (q : Nat) (hl : HasL W q p a k (sq + 1 + 1)) => show Calls Tryz.prog 11 #[.pointer (some ⟨q, 0, none⟩)] W (fun e w' => e = .returned (.int .i64 ((sq : Int) + 2)) ∧ W = w') from seq4_calls W q p a k (sq + 1 + 1) hl)
    have HOWN := Aside0.mk (fun (W : World) (hW : Below w.heap.size w W) => own4_calls W A5 c5 sets (Kd.C_below HSS.out hW) (by omega))
    clear he hsq hrv hk1 ha0 hak hr
    go_wp2_with (first | (go_at_call 6; ((with_reducible refine HOP.out.mono ?_); rintro e w2 ⟨q, rfl, hq, hqn, hb⟩; have HQN := Aside0.mk hqn; have HL2 := Aside0.mk (show HasL w2 q p a k (sq + 1) from hq); have HU2 := Aside0.mk hb; have r2' := bel_cell hb q2; have r3' := bel_cell hb q3; clear hb hq hqn)) | (go_at_call 7; ((with_reducible refine (HIN.out _).mono ?_); rintro e w3 ⟨rfl, hb⟩; have HL3 := Aside0.mk (HL2.out.below hb); have HU3 := Aside0.mk (bel_step HU2.out hb); have s2' := bel_cell hb r2'; have s3' := bel_cell hb r3'; clear hb)) | (go_at_call 8; ((with_reducible refine (HRH.out _ (show RowV w3 b (.slice A n c) d n from Kd.V_below HV1.out HU3.out)).mono ?_); rintro e w4 ⟨v4, rfl, _, hb⟩; have HL4 := Aside0.mk (HL3.out.below hb); have HU4 := Aside0.mk (bel_step HU3.out hb); have t2' := bel_cell hb s2'; have t3' := bel_cell hb s3'; clear hb)))
    have HLB := Aside0.mk (fun (W : World) (hb : Below w4.heap.size w4 W) => HL4.out.below hb)
    have HCB := Aside0.mk (fun (W : World) (hb : Below w4.heap.size w4 W) => And.intro (bel_cell hb t2') (bel_cell hb t3'))
    have HK4 := Aside0.mk (Below.refl w4.heap.size w4).drew
    clear r2' r3' s2' s3' t2' t3'
    go_region_held (fun w' => w'.cell? ⟨w.heap.size, 2, none⟩ = some (.int .i64 (a : Int)) ∧ w'.cell? ⟨w.heap.size, 3, none⟩ = some (.int .i64 (k : Int))) (first | exact HCB.out _ HK5.out | exact HCB.out _ HK4.out) (first | (go_at_call 9; (first | (with_reducible refine (HLM.out _ _ (HLB.out _ HK5.out)).mono ?_) | (with_reducible refine (HLM.out _ _ (HLB.out _ HK4.out)).mono ?_)); rintro e wA ⟨rfl, rfl⟩) | (go_at_call 11; (first | (with_reducible refine (HLS.out _ _ (HLB.out _ HK5.out)).mono ?_) | (with_reducible refine (HLS.out _ _ (HLB.out _ HK4.out)).mono ?_)); rintro e wA ⟨rfl, rfl⟩) | (go_at_call 10; (with_reducible refine (HRM.out _).mono ?_); rintro e w5 ⟨rfl, hb5⟩; have HK5 := Aside0.mk (bel_step HK4.out hb5); clear hb5))
    have HL5 := Aside0.mk (HLB.out _ HK5.out)
    have HU5 := Aside0.mk (bel_step HU4.out HK5.out)
    have HD5 := Aside0.mk (HD1.out.move HU5.out)
    clear HL2 HL3 HL4 HU2 HU3 HU4 HK4 HK5 HLB HCB HLM HLS HRM
    by_cases hee : errW n a k (sq + 1) sets = 0
    · have HPS := Aside0.mk (errW_pos hee HWS.out)
      have HOK := Aside0.mk (show ∀ m ∈ walM a (sq + 1) sets, OkM m from walS_okm (headL_bys _ _ _) (bodyL_bys _))
      have hml : (walM a (sq + 1) sets).length ≤ 40000 := by
        have := (errW_ok hee).2.2.1
        rw [walM, walS_length]
        omega
      have hm0 : 0 < (walM a (sq + 1) sets).length := by
        rw [walM, walS_length]
        omega
      have HST := Aside0.mk (fun (W : World) (hc : SetK.C W A5 sets.length sets) => show Calls Tryz.prog 14 #[.slice A n c, .agg #[.int .i64 a, .int .i64 k], .int .i64 ((sq : Int) + 1), .slice A5 sets.length c5] W (StepsR W (walM a (sq + 1) sets)) from rsteps_good W n a k (sq + 1) A c A5 c5 sets hn hk0 hak0 hc hee HPS.out)
      obtain ⟨ms, hms⟩ : ∃ ms, ms = walM a (sq + 1) sets := ⟨_, rfl⟩
      rw [← hms] at HOK hml hm0 HST
      have HBG := Aside0.mk (fun (W : World) (A6 : Option Addr) (c6 : Nat) (hd : HasD W p u s f d) (hl : HasL W q p a k (sq + 1)) (hc : SetK.C W A6 sets.length sets) => show Calls Tryz.prog 12 #[.pointer (some ⟨q, 0, none⟩), .slice A6 sets.length c6] W (fun e w' => ∃ (g c : Nat) (xs : List StepW), e = .returned (.tuple #[.slice (some ⟨g, 0, none⟩) xs.length c, .int .i64 0]) ∧ W.heap.size ≤ g ∧ (∀ t x, xs[t]? = some x → w'.cell? ⟨g, t, none⟩ = some (encW x)) ∧
        AllW w' (fun b => W.heap.size ≤ b) q p xs ms ∧ HasL w' q p a k (sq + 1 + 1) ∧ Fr (fun b => b = q) W w') from by rw [hms]; exact begin4_good W q p u s f d a k (sq + 1) A6 c6 sets hd hl hk0 (by rw [h8]; exact hak0) hc (by rw [h8]; exact hee) HPS.out)
      have HTO := Aside0.mk (show ∀ j, w1.heap.size ≤ j → ¬ OwnD u s f j from fun j hj ho => absurd (Nat.lt_of_lt_of_le (HOW.out j ho) HBS.out) (Nat.not_lt.2 hj))
      have HQO := Aside0.mk (HTO.out q HQN.out)
      clear hms hee
      go_wp2_with (first | (go_at_call 13; ((with_reducible refine (HOWN.out _ (bel_step HB1.out HU5.out)).mono ?_); rintro e w6 ⟨v6, rfl, hrow, hb⟩; obtain ⟨A6, c6, rfl, _, hC6⟩ := flat_reads hrow; have HC6 := Aside0.mk (show SetK.C w6 A6 sets.length sets from hC6); have HD6 := Aside0.mk (HD5.out.move hb); have HL6 := Aside0.mk (HL5.out.below hb); have HU6 := Aside0.mk (bel_step HU5.out hb); clear hrow hC6 hb)) | (go_at_call 12; go_loud ((with_reducible refine (HBG.out _ _ _ HD6.out HL6.out HC6.out).mono ?_); rintro e w7 ⟨g9, cu, xs, rfl, hg9, hcell, hall, hl7, hf7⟩; have HXL := Aside0.mk hall.len; have HAL := Aside0.mk hall; have HCE := Aside0.mk hcell; have HG := Aside0.mk hg9; have HL7 := Aside0.mk hl7; have HD7 := Aside0.mk (HD6.out.fr hf7 (HL6.out.ne_dev HD6.out) (fun b hb e => HQO.out (e ▸ hb))); have HU7 := Aside0.mk (HU6.out.trans (hf7.below _ HU6.out.size (fun b e => by rw [e]; exact HQN.out))); have HCC7 := Aside0.mk (And.intro (bel_cell HU7.out q2) (bel_cell HU7.out q3)); have x2 := HCC7.out.1; have x3 := HCC7.out.2; clear hall hcell hg9 hl7 hf7)) | (go_at_call 14; go_loud ((with_reducible refine (HST.out _ (Kd.C_below HSS.out (bel_step HB1.out HU7.out))).mono ?_); rintro e w8 ⟨ov, qs, rfl, hO⟩; have hql : qs.length = ms.length := hO.all.len; have hxl : xs.length = ms.length := HXL.out; obtain ⟨g8, o8, c8, rfl, hg8, hcell⟩ := po_row hO.row (by omega); have HQE := Aside0.mk hcell; have HG8 := Aside0.mk hg8; have HAO := Aside0.mk hO.all; have HU8 := Aside0.mk (bel_step HU7.out hO.bel); have HD8 := Aside0.mk (HD7.out.move hO.bel); have HL8 := Aside0.mk (HL7.out.below hO.bel); have HA8 := Aside0.mk (show AllW w8 (fun b => w6.heap.size ≤ b) q p xs ms from HAL.out.move (S := fun _ => False) (Fr.of_below hO.bel _) (fun _ _ h => h)); have HC8 := Aside0.mk (fun k x hx => bel_cell hO.bel (HCE.out k x hx)); have HU78 := Aside0.mk hO.bel.size; rw [hql, ← hxl]; clear hO hcell hg8)))
      have HV8 := Aside0.mk (show RowV w8 b (.slice A n c) d n from Kd.V_below HV1.out HU8.out)
      have HB8 := Aside0.mk (bel_step HB1.out HU8.out)
      have hx9 : xs.length ≤ 40000 := by omega
      clear hml hm0 x2 x3
      go_loopw [6, 121] (fun rv i wr => ∃ k : Nat, k ≤ xs.length ∧ i = .int .i64 (k : Int) ∧ Aside0 (RowV wr b rv (d.steps (ms.take k)) n) ∧ Aside0 (HasD wr p u s f (d.steps (ms.take k))) ∧ Aside0 (Fr (OwnD u s f) w8 wr)) (fun _ i _ => (xs.length - intOf i).toNat)
      case atStart => exact ⟨0, Nat.zero_le _, rfl, HV8, HD8, ⟨Fr.refl _ _⟩⟩
      case round =>
        obtain ⟨j, hj, rfl, HV, HD, HF⟩ := hrel
        have HB := Aside0.mk (HB8.out.trans (HF.out.below _ HB8.out.size (fun b hb => HOB.out b hb)))
        have HLq := Aside0.mk (HL8.out.fr HF.out HQO.out)
        by_cases hlt : j < xs.length
        · obtain ⟨x, hx⟩ : ∃ x, xs[j]? = some x := ⟨_, List.getElem?_eq_getElem hlt⟩
          obtain ⟨m, hm, hst1⟩ := HA8.out.get hx
          obtain ⟨o, hq, hop⟩ := HAO.out.get hm
          have hst := hst1.move HF.out (fun b hb => HTO.out b (Nat.le_trans HU6.out.size hb))
          have HXC := Aside0.mk (HF.out.cell (HC8.out j x hx) (HTO.out _ (Nat.le_trans HU6.out.size HG.out)))
          have HTK := Aside0.mk (take_steps (d := d) hm)
          have hok := HOK.out m (List.mem_of_getElem? hm)
          have HOPX := Aside0.mk hop
          have HQC := Aside0.mk (fun i hi => (HQE.out j o hq) i hi)
          have HQG := Aside0.mk (HTO.out g8 (Nat.le_trans HU7.out.size HG8.out))
          clear hst1 hm hx hq hop
          obtain ⟨oz, oa, ol, oA1, oc1, obs, oA2, oc2, oks⟩ := o
          obtain ⟨A9, c9, hu9⟩ := Kd.V_slice HV.out
          subst hu9
          rw [wdL_length] at HV ⊢
          have HDK := Aside0.mk (Dev.steps_ok (ms := ms.take j) HD1.out.ok (fun m hm => HOK.out m (List.mem_of_mem_take hm)))
          obtain ⟨dk, hdk⟩ : ∃ dk, dk = d.steps (ms.take j) := ⟨_, rfl⟩
          rw [← hdk] at HV HD HTK HDK
          obtain ⟨dn, hdn⟩ : ∃ dn, dn = d.steps (ms.take (j + 1)) := ⟨_, rfl⟩
          rw [← hdn] at HTK
          have HDN := Aside0.mk hdn
          have HLN := Aside0.mk (show dn.B.length = 8 * n from by rw [HTK.out, (Dev.step_ok HDK.out.1 hok).2, HDK.out.2, HL.out])
          have HDD := Aside0.mk (fun (W : World) (hF : Fr (OwnD u s f) w8 W) (hV : RowV W b (.slice A9 n c9) dk n) => show Calls Tryz.prog 15 #[.slice A9 n c9, .agg #[.int .i64 oz, .int .i64 oa, .int .i64 ol, .slice oA1 obs.length oc1, .slice oA2 oks.length oc2]] W (fun e w' => ∃ (v' : Value) (t : ByteArray) (e2 : Int), e = .returned (.tuple #[v', .string t, .int .i64 e2]) ∧ RowV w' b v' dn n ∧ Below W.heap.size W w') from by
            have hx := (HOPX.out.go (w1 := W) (T' := fun _ => True) (fun j hj ht => ⟨hF.block j hj (HTO.out j (Nat.le_trans HU7.out.size ht.1)), trivial⟩))
            have h9 := r3do_calls HDK.out.1 (HDK.out.2.trans HL.out) hV (Nat.le_trans HBS.out (Nat.le_trans HU8.out.size hF.size)) ⟨oz, oa, ol, oA1, oc1, obs, oA2, oc2, oks⟩ hx.wf hx.ck hx.z1
            rw [hx.st dk, ← HTK.out] at h9
            exact h9)
          rcases three_waysW HD.out HLq.out.cells.1 hst hok with ⟨x1, x2, x3, rfl, HDO⟩ | ⟨x1, x2, x3, rfl, HDO⟩ | ⟨rfl, HDO⟩
          all_goals
            clear hst hok hdk hdn
            have hxc := HXC.out
            simp only [encW] at hxc
            go_wp2_with (first | (go_at_call 71; ((with_reducible refine HDO.out.mono ?_); rintro e w9 ⟨rfl, hd, hf⟩; rw [← HTK.out] at hd; (have HD9 := Aside0.mk hd; have HF9 := Aside0.mk (HF.out.trans' hf); have HV9 := Aside0.mk (show RowV w9 b (.slice A9 n c9) dk n from Kd.V_step HV.out (fun j hj hlt => hf.block j hlt (fun ho => absurd (HOW.out j ho) (Nat.not_lt.2 hj)))); have b0 : w9.cell? ⟨g8, o8 + j * 5, none⟩ = some (.int .i64 oz) := HF9.out.cell (HQC.out 0 (by decide)) HQG.out; have b1 : w9.cell? ⟨g8, o8 + j * 5 + 1, none⟩ = some (.int .i64 oa) := HF9.out.cell (HQC.out 1 (by decide)) HQG.out; have b2 : w9.cell? ⟨g8, o8 + j * 5 + 2, none⟩ = some (.int .i64 ol) := HF9.out.cell (HQC.out 2 (by decide)) HQG.out; have b3 : w9.cell? ⟨g8, o8 + j * 5 + 3, none⟩ = some (.slice oA1 obs.length oc1) := HF9.out.cell (HQC.out 3 (by decide)) HQG.out; have b4 : w9.cell? ⟨g8, o8 + j * 5 + 4, none⟩ = some (.slice oA2 oks.length oc2) := HF9.out.cell (HQC.out 4 (by decide)) HQG.out; clear hd hf))) | (go_at_call 72; ((with_reducible refine HDO.out.mono ?_); rintro e w9 ⟨rfl, hd, hf⟩; rw [← HTK.out] at hd; (have HD9 := Aside0.mk hd; have HF9 := Aside0.mk (HF.out.trans' hf); have HV9 := Aside0.mk (show RowV w9 b (.slice A9 n c9) dk n from Kd.V_step HV.out (fun j hj hlt => hf.block j hlt (fun ho => absurd (HOW.out j ho) (Nat.not_lt.2 hj)))); have b0 : w9.cell? ⟨g8, o8 + j * 5, none⟩ = some (.int .i64 oz) := HF9.out.cell (HQC.out 0 (by decide)) HQG.out; have b1 : w9.cell? ⟨g8, o8 + j * 5 + 1, none⟩ = some (.int .i64 oa) := HF9.out.cell (HQC.out 1 (by decide)) HQG.out; have b2 : w9.cell? ⟨g8, o8 + j * 5 + 2, none⟩ = some (.int .i64 ol) := HF9.out.cell (HQC.out 2 (by decide)) HQG.out; have b3 : w9.cell? ⟨g8, o8 + j * 5 + 3, none⟩ = some (.slice oA1 obs.length oc1) := HF9.out.cell (HQC.out 3 (by decide)) HQG.out; have b4 : w9.cell? ⟨g8, o8 + j * 5 + 4, none⟩ = some (.slice oA2 oks.length oc2) := HF9.out.cell (HQC.out 4 (by decide)) HQG.out; clear hd hf))) | (go_at_call 47; ((with_reducible refine HDO.out.mono ?_); rintro e w9 ⟨rfl, hd, hf⟩; rw [← HTK.out] at hd; (have HD9 := Aside0.mk hd; have HF9 := Aside0.mk (HF.out.trans' hf); have HV9 := Aside0.mk (show RowV w9 b (.slice A9 n c9) dk n from Kd.V_step HV.out (fun j hj hlt => hf.block j hlt (fun ho => absurd (HOW.out j ho) (Nat.not_lt.2 hj)))); have b0 : w9.cell? ⟨g8, o8 + j * 5, none⟩ = some (.int .i64 oz) := HF9.out.cell (HQC.out 0 (by decide)) HQG.out; have b1 : w9.cell? ⟨g8, o8 + j * 5 + 1, none⟩ = some (.int .i64 oa) := HF9.out.cell (HQC.out 1 (by decide)) HQG.out; have b2 : w9.cell? ⟨g8, o8 + j * 5 + 2, none⟩ = some (.int .i64 ol) := HF9.out.cell (HQC.out 2 (by decide)) HQG.out; have b3 : w9.cell? ⟨g8, o8 + j * 5 + 3, none⟩ = some (.slice oA1 obs.length oc1) := HF9.out.cell (HQC.out 3 (by decide)) HQG.out; have b4 : w9.cell? ⟨g8, o8 + j * 5 + 4, none⟩ = some (.slice oA2 oks.length oc2) := HF9.out.cell (HQC.out 4 (by decide)) HQG.out; clear hd hf))) | (go_at_call 15; ((with_reducible refine (HDD.out _ HF9.out HV9.out).mono ?_); rintro e w10 ⟨v10, t10, e10, rfl, hv, hb⟩; have HV10 := Aside0.mk hv; have HD10 := Aside0.mk (HD9.out.move hb); have HF10 := Aside0.mk (HF9.out.then_below hb); clear hv hb)) | (go_at_call 16; ((with_reducible refine (same4_calls _ p u s f dn HD10.out HV10.out HLN.out).mono ?_); rintro e w11 ⟨rfl, hb⟩; have HB11 := Aside0.mk hb; clear hb)))
            refine ⟨⟨j + 1, by omega, by go_num, ⟨?_⟩, ⟨?_⟩, ⟨HF10.out.then_below HB11.out⟩⟩, by simp [intOf]; omega⟩
            · rw [← HDN.out]; exact Kd.V_below HV10.out HB11.out
            · rw [← HDN.out]; exact HD10.out.move HB11.out
        · obtain rfl : j = xs.length := by omega
          go_wp2_with (first | (go_at_call 5; ((with_reducible refine (wal_alive _).mono ?_); rintro e w9 ⟨rfl, hb⟩; have HB9 := Aside0.mk (bel_step HB.out hb); have HL9 := Aside0.mk (HLq.out.below hb); clear hb)) | (go_at_call 11; ((with_reducible refine (HLT2.out _ _ HL9.out).mono ?_); rintro e wA ⟨rfl, rfl⟩)))
          go_ret
          exact ⟨by simp, HB9.out⟩
    · have HST := Aside0.mk (fun (W : World) (hc : SetK.C W A5 sets.length sets) => show Calls Tryz.prog 14 #[.slice A n c, .agg #[.int .i64 a, .int .i64 k], .int .i64 ((sq : Int) + 1), .slice A5 sets.length c5] W (fun e w' => e = .returned (.tuple #[.slice none 0 0, .int .i64 (errW n a k (sq + 1) sets)]) ∧ Below W.heap.size W w') from rsteps_bad W n a k (sq + 1) A c A5 c5 sets hn hk0 hak0 hc (by omega) hee)
      have HBG := Aside0.mk (fun (W : World) (A6 : Option Addr) (c6 : Nat) (hd : HasD W p u s f d) (hl : HasL W q p a k (sq + 1)) (hc : SetK.C W A6 sets.length sets) => begin4_bad W q p u s f d a k (sq + 1) A6 c6 sets hd hl hk0 (by rw [h8]; exact hak0) hc (by rw [h8]; exact hee))
      rw [h8] at HBG
      obtain ⟨er, her⟩ : ∃ er, er = errW n a k (sq + 1) sets := ⟨_, rfl⟩
      rw [← her] at HBG HST hee
      have z : (er == 0) = false := by rw [beq_eq_false_iff_ne]; exact hee
      clear her h8
      go_wp2_with (first | (go_at_call 13; ((with_reducible refine (HOWN.out _ (bel_step HB1.out HU5.out)).mono ?_); rintro e w6 ⟨v6, rfl, hrow, hb⟩; obtain ⟨A6, c6, rfl, _, hC6⟩ := flat_reads hrow; have HC6 := Aside0.mk (show SetK.C w6 A6 sets.length sets from hC6); have HD6 := Aside0.mk (HD5.out.move hb); have HL6 := Aside0.mk (HL5.out.below hb); have HU6 := Aside0.mk (bel_step HU5.out hb); clear hrow hC6 hb)) | (go_at_call 12; go_loud ((with_reducible refine (HBG.out _ _ _ HD6.out HL6.out HC6.out).mono ?_); rintro e w7 ⟨rfl, hb⟩; have HU7 := Aside0.mk (bel_step HU6.out hb); have x2 := bel_cell HU7.out q2; have x3 := bel_cell HU7.out q3; clear hb)) | (go_at_call 14; go_loud ((with_reducible refine (HST.out _ (Kd.C_below HSS.out (bel_step HB1.out HU7.out))).mono ?_); rintro e w8 ⟨rfl, hb⟩; have HB8 := Aside0.mk (bel_step HB1.out (bel_step HU7.out hb)); clear hb)))
      go_loopw [121] (fun i wr => i = .int .i64 0 ∧ Aside0 (Below w.heap.size w wr)) (fun _ _ => 0)
      case atStart => exact ⟨rfl, HB8⟩
      case round =>
        obtain ⟨rfl, HB⟩ := hrel
        go_wp2_with (go_at_call 5; ((with_reducible refine (wal_alive _).mono ?_); rintro e w9 ⟨rfl, hb⟩; have HB9 := Aside0.mk (bel_step HB.out hb); clear hb))
        go_ret
        exact ⟨by simp, HB9.out⟩
  · have HOP := Aside0.mk (open4_bad w1 p u s f d a k HD1.out (by rw [h8]; exact he))
    rw [h8] at HOP
    obtain ⟨x, hx⟩ : ∃ x, x = inR n a k := ⟨_, rfl⟩
    rw [← hx] at HOP HIN he
    have z : (x == 0) = false := by rw [beq_eq_false_iff_ne]; exact he
    clear hx h8
    go_wp2_with (first | (go_at_call 6; ((with_reducible refine HOP.out.mono ?_); rintro e w2 ⟨rfl, hb⟩; have HB2 := Aside0.mk (bel_step HB1.out hb); have r2' := bel_cell hb q2; have r3' := bel_cell hb q3; clear hb)) | (go_at_call 7; ((with_reducible refine (HIN.out _).mono ?_); rintro e w3 ⟨rfl, hb⟩; have HB3 := Aside0.mk (bel_step HB2.out hb); clear hb)) | (go_at_call 5; ((with_reducible refine (wal_alive _).mono ?_); rintro e w4 ⟨rfl, hb⟩; have HB4 := Aside0.mk (bel_step HB3.out hb); clear hb)))
    go_ret
    exact ⟨rfl, HB4.out⟩
theorem walAll_walk (x : SeatP) (A5 : Option Addr) (c5 : Nat) (sets : List SetT) (w : World) (hx : WfSeat w x) (hs : SetK.C w A5 sets.length sets) (hws : ∀ s ∈ sets, WfSt s) : Calls Tryz.prog 3 #[.agg (encSeat x).toArray, .slice A5 sets.length c5] w fun e w' => e = .returned (.bool true) ∧ Below w.heap.size w w' :=
  wall_go x.A0 x.c0 x.B x.A1 x.c1 x.os x.a x.k A5 c5 sets w hx.rb hx.by_ hx.ro (fun o h => (hx.wo o h).1) (fun o h => (hx.wo o h).2) hx.ha hx.hk hs hws
end Go.Proofs.YtbfogcckbhkciaaGreat.Hand
