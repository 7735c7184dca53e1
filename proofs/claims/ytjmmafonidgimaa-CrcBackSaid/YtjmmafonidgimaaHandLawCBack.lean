/- CrcBack, walked. -/
import Derived.Test.YtjmmafonidgimaaHandCrcAlive
import Derived.Deep.RegionHeld
namespace Go.Proofs.Ytjmmafonidgimaa.Hand
open Go.RowKit Go.Proofs.YtjmmafonidgimaaW.PrintWords

theorem cback_big (A : Option Addr) (c : Nat) (l : List Int) (at_ : Int) (w : World) (hl : l.length ≤ 9223372036854775807) (h : 20000 < l.length ∨ at_ < 0 ∨ (l.length : Int) < at_) :
    Calls Try.prog 4 #[.slice A l.length c, .int .i64 at_] w fun e w' => e = .returned (.bool true) ∧ Below w.heap.size w w' := by
  by_cases h1 : 20000 < l.length
  · go_enter Try.func4, Try.ntmps4
    go_wp2_with (go_at_call 8; (with_reducible refine (crc_alive _).mono ?_); rintro e wA ⟨rfl, hbA⟩; have HBA := Aside0.mk hbA; clear hbA)
    go_ret
    exact ⟨rfl, HBA.out⟩
  · by_cases h2 : at_ < 0
    · go_enter Try.func4, Try.ntmps4
      go_wp2_with (go_at_call 8; (with_reducible refine (crc_alive _).mono ?_); rintro e wA ⟨rfl, hbA⟩; have HBA := Aside0.mk hbA; clear hbA)
      go_ret
      exact ⟨rfl, HBA.out⟩
    · have h3 : (l.length : Int) < at_ := by omega
      go_enter Try.func4, Try.ntmps4
      go_wp2_with (go_at_call 8; (with_reducible refine (crc_alive _).mono ?_); rintro e wA ⟨rfl, hbA⟩; have HBA := Aside0.mk hbA; clear hbA)
      go_ret
      exact ⟨rfl, HBA.out⟩
set_option maxHeartbeats 1000000 in
theorem cback_small (A : Option Addr) (c : Nat) (l p q : List Int) (w : World) (hr : ReadsInt w .u8 A l.length l) (hc : l.length ≤ c) (hp : p = l.take p.length) (hq : q = l.drop p.length) (hn : p.length ≤ l.length) (h : l.length ≤ 20000) :
    Calls Try.prog 4 #[.slice A l.length c, .int .i64 p.length] w fun e w' => e = .returned (.bool true) ∧ Below w.heap.size w w' := by
  have HR := Aside0.mk hr
  have hc2 : l.length + 8 ≤ 140737488355328 := by omega
  have hp2 : p.length ≤ 20000 := by omega
  have hqq : q.length = l.length - p.length := by rw [hq, List.length_drop]
  have hq2 : q.length ≤ 20000 := by omega
  have HP : Aside0 (∀ W, Below w.heap.size w W → ReadsInt W .u8 A p.length p) := ⟨fun W hW => by rw [hp]; exact reads_take hn (hr.below hW)⟩
  have htk := take_run A c l.length p.length hn hc (by omega)
  obtain ⟨Ad, hdr, hrd⟩ := drop_run A c l p.length hn hc
  have HQ : Aside0 (∀ W, Below w.heap.size w W → ReadsInt W .u8 Ad q.length q) := ⟨fun W hW => by have := hrd W (hr.below hW); rw [← hq] at this; rw [hqq]; exact this⟩
  rw [← hqq] at hdr
  have hs0 : tI (crcV (crcV (crcV 0#16 p) []) q) = crcI l := by
    show tI (crcV (crcV 0#16 p) q) = _
    have e : p ++ q = l := by
      have := List.take_append_drop p.length l
      rw [← hq, ← hp] at this
      exact this
    rw [← crcV_append, e]
    rfl
  have HM : Aside0 (tI (crcV (BitVec.ofInt 16 (crcI p)) q) = crcI l) := ⟨by rw [crcI, ofInt_tI]; exact hs0⟩
  obtain ⟨n, hN⟩ : ∃ n, n = crcI l := ⟨_, rfl⟩
  rw [← hN] at hs0 HM
  have HS3 := Aside0.mk hs0
  have HN := Aside0.mk hN
  clear hs0
  obtain ⟨hl0, hl1⟩ : 0 ≤ n ∧ n < 65536 := by rw [hN]; exact tI_lt _
  clear hN
  clear hr hrd hqq hq hp
  go_enter Try.func4, Try.ntmps4
  go_wp2_with (first | (go_at_call 14; (with_reducible refine (seal_calls A c l w HR.out hc2).mono ?_); rintro e w1 ⟨v1, rfl, hr1, hb1⟩; obtain ⟨A1, c1, rfl, hcc, hR1⟩ := reads_own2 hr1; have HC1 := Aside0.mk hcc; have HR1 := Aside0.mk hR1; have HB1 := Aside0.mk hb1; clear hr1 hb1 hR1 hcc) | (go_at_call 9; (with_reducible refine (open_calls A1 c1 (sealL l) _ HR1.out HC1.out (by rw [sealL_length]; omega)).mono ?_); rw [(openB_seal _).1, (openB_seal _).2]; rintro e w2 ⟨v2, rfl, hr2, hb2⟩; obtain ⟨A2, c2, rfl, hcc, hR2⟩ := reads_own2 hr2; have HR2 := Aside0.mk hR2; have HB2 := Aside0.mk (bel_step HB1.out hb2); clear hr2 hb2 hR2 hcc) | (go_at_call 13; (with_reducible refine (sum_one l A c w2.heap.size 1 _ (heap_alloc_new w2 _) (HR.out.below (below_alloc HB2.out _)) (by omega)).mono ?_); rw [← HN.out]; rintro e w3 ⟨rfl, hb3⟩; have HB3 := Aside0.mk (bel_step (below_alloc HB2.out _) hb3); have HR3 := Aside0.mk (HR2.out.below (bel_step (below_alloc (Below.refl _ _) _) hb3)); clear hb3))
  have HQ12 := Aside0.mk (show ∀ W, Below w3.heap.size w3 W → (convert 22 9 (.slice A2 l.length c2)).run Try.prog W = .ok (.string (strOfNums l)) W ∧ (convert 22 9 (.slice A l.length c)).run Try.prog W = .ok (.string (strOfNums l)) W from fun W hW =>
    ⟨conv_reads (c := c2) (HR3.out.below hW), conv_reads (c := c) (HR.out.below (bel_step HB3.out hW))⟩)
  go_region_held (fun w' => (convert 22 9 (.slice A2 l.length c2)).run Try.prog w' = .ok (.string (strOfNums l)) w' ∧ (convert 22 9 (.slice A l.length c)).run Try.prog w' = .ok (.string (strOfNums l)) w') (first | exact HQ12.out _ HK6.out | exact HQ12.out _ HK5.out | exact HQ12.out _ (below_alloc HK4.out _) | exact HQ12.out _ HK4.out | exact HQ12.out _ (below_alloc HKA.out _) | exact HQ12.out _ HKA.out | exact HQ12.out _ (Below.refl _ _).drew) (first | (go_at_call 8; (with_reducible refine (crc_alive _).mono ?_); rintro e wA ⟨rfl, hbA⟩; have HBA := Aside0.mk (bel_step HB3.out.drew hbA); have HKA := Aside0.mk (bel_step (Below.refl _ _).drew hbA); clear hbA) | (go_at_call 13; (with_reducible refine (sum_gap p A c q Ad (c - p.length) wA.heap.size 3 _ (heap_alloc_new wA _) (HP.out _ (below_alloc HBA.out _)) (HQ.out _ (below_alloc HBA.out _)) (by omega) (by omega)).mono ?_); rw [HS3.out]; rintro e w4 ⟨rfl, hb4⟩; have HB4 := Aside0.mk (bel_step (below_alloc HBA.out _) hb4); have HK4 := Aside0.mk (bel_step (below_alloc HKA.out _) hb4); clear hb4) | (go_at_call 13; (with_reducible refine (sum_one p A c w4.heap.size 1 _ (heap_alloc_new w4 _) (HP.out _ (below_alloc HB4.out _)) (by omega)).mono ?_); rintro e w5 ⟨rfl, hb5⟩; have HB5 := Aside0.mk (bel_step (below_alloc HB4.out _) hb5); have HK5 := Aside0.mk (bel_step (below_alloc HK4.out _) hb5); clear hb5) | (go_at_call 11; (with_reducible refine (more_v (crcI p) Ad (c - p.length) q _ (HQ.out _ HB5.out) (by omega)).mono ?_); rw [HM.out]; rintro e w6 ⟨rfl, hb6⟩; have HB6 := Aside0.mk (bel_step HB5.out hb6); have HK6 := Aside0.mk (bel_step HK5.out hb6); clear hb6))
  go_wp2
  go_ret
  exact ⟨rfl, HB6.out⟩
theorem crcBack_walk (A : Option Addr) (c : Nat) (l : List Int) (at_ : Int) (w : World) (hr : ReadsInt w .u8 A l.length l) (_hb : Bys l) (_y : l.length ≤ 140737488351232) (hc : l.length ≤ c) (_h : (Lit.int .i64 at_).wf = true) :
    Calls Try.prog 4 #[.slice A l.length c, .int .i64 at_] w fun e w' => e = .returned (.bool true) ∧ Below w.heap.size w w' := by
  by_cases h : 20000 < l.length ∨ at_ < 0 ∨ (l.length : Int) < at_
  · exact cback_big A c l at_ w hr.2.1 h
  · obtain ⟨a, rfl⟩ := Int.eq_ofNat_of_zero_le (show 0 ≤ at_ by omega)
    have hl : (l.take a).length = a := by rw [List.length_take]; omega
    have := cback_small A c l (l.take a) (l.drop a) w hr hc (by rw [hl]) (by rw [hl]) (by omega) (by omega)
    rwa [hl] at this
end Go.Proofs.Ytjmmafonidgimaa.Hand
