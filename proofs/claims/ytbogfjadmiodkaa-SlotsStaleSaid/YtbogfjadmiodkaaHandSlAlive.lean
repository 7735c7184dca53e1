/- The check that every law of layer 11 makes. -/
import Derived.Test.YtbogfjadmiodkaaHandSl5
import Derived.Test.YtbogfjadmiodkaaHandSl7
import Derived.Test.YtbogfjadmiodkaaHandSl8
import Derived.Deep.RegionHeld
namespace Go.Proofs.Ytbogfjadmiodkaa.Hand
open Go.RowKit Go.Proofs.YtbogfjadmiodkaaW.PrintWords

theorem al_new (w : World) : Calls Try.prog 17 #[.int .i64 1] w fun e w' => ∃ (p : Nat) (v : Value), e = .returned (.tuple #[.pointer (some ⟨p, 0, none⟩), .int .i64 0]) ∧ HasSl w' p v [(0, false, 0)] ∧ w.heap.size ≤ p ∧ (∀ k, v.ownBlock = some k → w.heap.size ≤ k) ∧ Below w.heap.size w w' := new_calls w 1 (by decide)
section
variable (w : World) (p : Nat) (v : Value)
theorem al_make (h : HasSl w p v [(0, false, 0)]) : Calls Try.prog 30 #[.pointer (some ⟨p, 0, none⟩), .int .u64 5] w fun e w' => e = .returned (.tuple #[.agg #[.int .i64 0, .int .i64 1], .int .i64 0]) ∧ HasSl w' p v [(1, true, 5)] ∧ Fr (fun b => some b = v.ownBlock) w w' := make_some w p v [(0, false, 0)] 5 0 (0, false, 0) h rfl rfl (by decide)
theorem al_full (h : HasSl w p v [(1, true, 5)]) : Calls Try.prog 30 #[.pointer (some ⟨p, 0, none⟩), .int .u64 6] w fun e w' => e = .returned (.tuple #[.agg #[.int .i64 0, .int .i64 0], .int .i64 110]) ∧ Below w.heap.size w w' := make_none w p v [(1, true, 5)] 6 h rfl (by decide)
theorem al_free (h : HasSl w p v [(1, true, 5)]) : Calls Try.prog 29 #[.pointer (some ⟨p, 0, none⟩), .agg #[.int .i64 0, .int .i64 1]] w fun e w' => e = .returned (.int .i64 0) ∧ HasSl w' p v [(1, false, 0)] ∧ Fr (fun b => some b = v.ownBlock) w w' := free_good w p v [(1, true, 5)] 0 (1, true, 5) h rfl rfl
theorem al_again (h : HasSl w p v [(1, false, 0)]) : Calls Try.prog 30 #[.pointer (some ⟨p, 0, none⟩), .int .u64 7] w fun e w' => e = .returned (.tuple #[.agg #[.int .i64 0, .int .i64 2], .int .i64 0]) ∧ HasSl w' p v [(2, true, 7)] ∧ Fr (fun b => some b = v.ownBlock) w w' := make_some w p v [(1, false, 0)] 7 0 (1, false, 0) h rfl rfl (by decide)
theorem al_stale (h : HasSl w p v [(2, true, 7)]) : Calls Try.prog 27 #[.pointer (some ⟨p, 0, none⟩), .agg #[.int .i64 0, .int .i64 1]] w fun e w' => e = .returned (.tuple #[.int .u64 0, .int .i64 111]) ∧ Below w.heap.size w w' := get_stale w p v [(2, true, 7)] 0 1 h rfl
theorem al_get (h : HasSl w p v [(2, true, 7)]) : Calls Try.prog 27 #[.pointer (some ⟨p, 0, none⟩), .agg #[.int .i64 0, .int .i64 2]] w fun e w' => e = .returned (.tuple #[.int .u64 7, .int .i64 0]) ∧ Below w.heap.size w w' := get_good w p v [(2, true, 7)] 0 (2, true, 7) h rfl rfl
theorem al_enc (h : HasSl w p v [(2, true, 7)]) : Calls Try.prog 20 #[.pointer (some ⟨p, 0, none⟩)] w fun e w' => ∃ A c, e = .returned (.slice A 13 c) ∧ Below w.heap.size w w' := by
  refine (encode_calls w p v [(2, true, 7)] h (by decide) (by simp [WfSl])).mono ?_
  rintro e w' ⟨u, rfl, hr, hb⟩
  obtain ⟨A, c, rfl, _, _⟩ := reads_own2 hr
  exact ⟨A, c, rfl, hb⟩
end
/-- A handle's variable. -/
def Bx (w : World) (b : Nat) (x y : Int) : Prop := w.heap[b]? = some (.cells #[.int .i64 x, .int .i64 y] 23 (0, 0))
theorem Bx.c0 {w : World} {b : Nat} {x y : Int} (h : Bx w b x y) : w.cell? ⟨b, 0, none⟩ = some (.int .i64 x) := blk_cell h rfl
theorem Bx.c1 {w : World} {b : Nat} {x y : Int} (h : Bx w b x y) : w.cell? ⟨b, 1, none⟩ = some (.int .i64 y) := blk_cell h rfl
theorem Bx.below {w w1 : World} {b : Nat} {x y : Int} (h : Bx w b x y) (hb : Below w.heap.size w w1) : Bx w1 b x y := (hb.block b (blk_lt h)).trans h
theorem Bx.new (w : World) (x y : Int) : Bx (w.alloc (.cells #[.int .i64 x, .int .i64 y] 23)) w.heap.size x y := heap_alloc_new w _
theorem HasSl.own_lt {w : World} {p : Nat} {v : Value} {L : List Sl} (h : HasSl w p v L) {k : Nat} (hk : w.heap.size ≤ k) : ¬ some k = v.ownBlock := by
  intro e
  obtain ⟨cs, hc⟩ := own_typed (R_flat.1 h.row).2 k e.symm
  have := blk_lt hc
  omega
theorem al_pack (w : World) : Calls Try.prog 12 #[.agg #[.int .i64 0, .int .i64 2]] w fun e w' => e = .returned (.int .u64 2) ∧ Below w.heap.size w w' := pack_calls 0 2 w
theorem al_unpack (w : World) : Calls Try.prog 15 #[.int .u64 2] w fun e w' => e = .returned (.agg #[.int .i64 0, .int .i64 2]) ∧ Below w.heap.size w w' := unpack_calls 2 (by decide) (by decide) w
set_option maxHeartbeats 2000000 in
theorem sl_alive (w : World) : Calls Try.prog 13 #[] w fun e w' => e = .returned (.bool true) ∧ Below w.heap.size w w' := by
  go_enter Try.func13, Try.ntmps13
  go_wp2_with (first | (go_at_call 17; (with_reducible refine (al_new _).mono ?_); rintro e w1 ⟨p, v, rfl, hs1, hp1, hv1, hb1⟩; have HB1 := Aside0.mk hb1; have HS1 := Aside0.mk hs1; have HV := Aside0.mk (show ∀ b, some b = v.ownBlock → w.heap.size ≤ b from fun b hb => hv1 b hb.symm); clear hb1 hs1 hp1 hv1) | (go_at_call 30; (with_reducible refine (al_make _ p v HS1.out).mono ?_); rintro e w2 ⟨rfl, hs, hf⟩; have HS2 := Aside0.mk hs; have HB2 := Aside0.mk (HB1.out.trans (hf.below _ HB1.out.size HV.out)); have HNA := Aside0.mk (hs.own_lt (Nat.le_refl _)); clear hs hf) | (go_at_call 30; (with_reducible refine (al_full _ p v (HS2.out.move (below_alloc (Below.refl _ _) _))).mono ?_); rintro e w3 ⟨rfl, hb⟩; have HS3 := Aside0.mk ((HS2.out.move (below_alloc (Below.refl _ _) _)).move hb); have HB3 := Aside0.mk (bel_step (below_alloc HB2.out _) hb); have Xa3 := Aside0.mk ((Bx.new w2 0 1).below hb); have xa0 := cell_alloc Xa3.out.c0; have xa1 := cell_alloc Xa3.out.c1; clear hb) | (go_at_call 29; (with_reducible refine (al_free _ p v (HS3.out.move (below_alloc (Below.refl _ _) _))).mono ?_); rintro e w4 ⟨rfl, hs, hf⟩; have HS4 := Aside0.mk hs; have HB4 := Aside0.mk ((below_alloc HB3.out _).trans (hf.below _ (below_alloc HB3.out _).size HV.out)); have Xa4 := Aside0.mk (show Bx w4 w2.heap.size 0 1 from hf.get (old_blk Xa3.out _) HNA.out); clear hs hf) | (go_at_call 30; (with_reducible refine (al_again _ p v HS4.out).mono ?_); rintro e w5 ⟨rfl, hs, hf⟩; have HS5 := Aside0.mk hs; have HB5 := Aside0.mk (HB4.out.trans (hf.below _ HB4.out.size HV.out)); have Xa5 := Aside0.mk (show Bx w5 w2.heap.size 0 1 from hf.get Xa4.out HNA.out); have xa0 := cell_alloc Xa5.out.c0; have xa1 := cell_alloc Xa5.out.c1; clear hs hf) | (go_at_call 27; (with_reducible refine (al_stale _ p v (HS5.out.move (below_alloc (Below.refl _ _) _))).mono ?_); rintro e w6 ⟨rfl, hb⟩; have HS6 := Aside0.mk ((HS5.out.move (below_alloc (Below.refl _ _) _)).move hb); have HB6 := Aside0.mk (bel_step (below_alloc HB5.out _) hb); have Xa6 := Aside0.mk ((Xa5.out.below (below_alloc (Below.refl _ _) _)).below hb); have Xb6 := Aside0.mk ((Bx.new w5 0 2).below hb); have xa0 := Xa6.out.c0; have xa1 := Xa6.out.c1; have xb0 := Xb6.out.c0; have xb1 := Xb6.out.c1; clear hb) | (go_at_call 27; (with_reducible refine (al_get _ p v HS6.out).mono ?_); rintro e w7 ⟨rfl, hb⟩; have HS7 := Aside0.mk (HS6.out.move hb); have HB7 := Aside0.mk (bel_step HB6.out hb); have Xa7 := Aside0.mk (Xa6.out.below hb); have Xb7 := Aside0.mk (Xb6.out.below hb); have xa0 := Xa7.out.c0; have xa1 := Xa7.out.c1; have xb0 := Xb7.out.c0; have xb1 := Xb7.out.c1; clear hb))
  have HCC := Aside0.mk (show ∀ W, Below w7.heap.size w7 W → W.cell? ⟨w2.heap.size, 0, none⟩ = some (.int .i64 0) ∧ W.cell? ⟨w2.heap.size, 1, none⟩ = some (.int .i64 1) ∧ W.cell? ⟨w5.heap.size, 0, none⟩ = some (.int .i64 0) ∧ W.cell? ⟨w5.heap.size, 1, none⟩ = some (.int .i64 2) from fun W hW =>
    ⟨(Xa7.out.below hW).c0, (Xa7.out.below hW).c1, (Xb7.out.below hW).c0, (Xb7.out.below hW).c1⟩)
  have HK7 := Aside0.mk (Below.refl w7.heap.size w7).drew
  replace HS7 := Aside0.mk (HS7.out.move (Below.refl _ _).drew)
  replace HB7 := Aside0.mk HB7.out.drew
  go_region_held (fun w' => w'.cell? ⟨w2.heap.size, 0, none⟩ = some (.int .i64 0) ∧ w'.cell? ⟨w2.heap.size, 1, none⟩ = some (.int .i64 1) ∧ w'.cell? ⟨w5.heap.size, 0, none⟩ = some (.int .i64 0) ∧ w'.cell? ⟨w5.heap.size, 1, none⟩ = some (.int .i64 2)) (first | exact HCC.out _ HKA.out | exact HCC.out _ HK9.out | exact HCC.out _ HK8.out | exact HCC.out _ HK7.out) (first | (go_at_call 12; (with_reducible refine (al_pack _).mono ?_); rintro e w8 ⟨rfl, hb⟩; have HS8 := Aside0.mk (HS7.out.move hb); have HB8 := Aside0.mk (bel_step HB7.out hb); have HK8 := Aside0.mk (bel_step HK7.out hb); clear hb) | (go_at_call 15; (with_reducible refine (al_unpack _).mono ?_); rintro e w9 ⟨rfl, hb⟩; have HS9 := Aside0.mk (HS8.out.move hb); have HB9 := Aside0.mk (bel_step HB8.out hb); have HK9 := Aside0.mk (bel_step HK8.out hb); clear hb) | (go_at_call 20; (with_reducible refine (al_enc _ p v HS9.out).mono ?_); rintro e wA ⟨AA, cA, rfl, hbA⟩; have HBA := Aside0.mk (bel_step HB9.out hbA); have HKA := Aside0.mk (bel_step HK9.out hbA); clear hbA))
  all_goals
    go_wp2
    go_ret
    exact ⟨rfl, HBA.out⟩
end Go.Proofs.Ytbogfjadmiodkaa.Hand
