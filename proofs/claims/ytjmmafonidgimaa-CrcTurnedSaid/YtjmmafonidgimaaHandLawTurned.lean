/- CrcTurned, walked. -/
import Derived.Test.YtjmmafonidgimaaHandCrcAlive
namespace Go.Proofs.Ytjmmafonidgimaa.Hand
open Go.RowKit Go.Proofs.YtjmmafonidgimaaW.PrintWords

theorem turned_big (A : Option Addr) (c : Nat) (l : List Int) (at_ t : Int) (w : World) (hl : l.length ≤ 9223372036854775807) (h : 20000 < l.length ∨ at_ < 0 ∨ (l.length : Int) ≤ at_ ∨ t = 0) :
    Calls Try.prog 5 #[.slice A l.length c, .int .i64 at_, .int .u8 t] w fun e w' => e = .returned (.bool true) ∧ Below w.heap.size w w' := by
  by_cases h1 : 20000 < l.length
  · go_enter Try.func5, Try.ntmps5
    go_wp2_with (go_at_call 8; (with_reducible refine (crc_alive _).mono ?_); rintro e wA ⟨rfl, hbA⟩; have HBA := Aside0.mk hbA; clear hbA)
    go_ret
    exact ⟨rfl, HBA.out⟩
  · by_cases h2 : at_ < 0
    · go_enter Try.func5, Try.ntmps5
      go_wp2_with (go_at_call 8; (with_reducible refine (crc_alive _).mono ?_); rintro e wA ⟨rfl, hbA⟩; have HBA := Aside0.mk hbA; clear hbA)
      go_ret
      exact ⟨rfl, HBA.out⟩
    · by_cases h3 : (l.length : Int) ≤ at_
      · go_enter Try.func5, Try.ntmps5
        go_wp2_with (go_at_call 8; (with_reducible refine (crc_alive _).mono ?_); rintro e wA ⟨rfl, hbA⟩; have HBA := Aside0.mk hbA; clear hbA)
        go_ret
        exact ⟨rfl, HBA.out⟩
      · obtain rfl : t = 0 := by omega
        go_enter Try.func5, Try.ntmps5
        go_wp2_with (go_at_call 8; (with_reducible refine (crc_alive _).mono ?_); rintro e wA ⟨rfl, hbA⟩; have HBA := Aside0.mk hbA; clear hbA)
        go_ret
        exact ⟨rfl, HBA.out⟩
theorem crc_set_ne {l : List Int} {a : Nat} {z : Int} (ha : a < l.length) (hl : Bys l) (hz : 0 ≤ z ∧ z < 256) (hne : z ≠ rd l a) : crcI (l.set a z) ≠ crcI l := by
  intro h
  have hx : l = l.take a ++ rd l a :: l.drop (a + 1) := by
    have h1 := List.take_append_drop (a + 1) l
    rw [take_rd ha, List.append_assoc] at h1
    exact h1.symm
  have hs : l.set a z = l.take a ++ z :: l.drop (a + 1) := by rw [List.set_eq_take_append_cons_drop, if_pos ha]
  have h2 := tI_inj h
  rw [hs] at h2
  conv at h2 => rhs; rw [hx]
  rw [crcV_append, crcV_append] at h2
  have h3 : crcV (byteV (crcV 0#16 (l.take a)) z) (l.drop (a + 1)) = crcV (byteV (crcV 0#16 (l.take a)) (rd l a)) (l.drop (a + 1)) := h2
  exact hne (byteV_byte hz (rd_bys hl a) (crcV_inj _ h3))
theorem leB_two_inj {m n : Int} (hm : 0 ≤ m ∧ m < 65536) (hn : 0 ≤ n ∧ n < 65536) (h : leB m 2 = leB n 2) : m = n := by
  simp [leB] at h
  omega
theorem seal_set_no {l : List Int} {a : Nat} {z : Int} (ha : a < l.length) (hl : Bys l) (hz : 0 ≤ z ∧ z < 256) (hne : z ≠ rd l a) : openB ((sealL l).set a z) = false ∧ ((sealL l).set a z).take l.length = l.set a z := by
  have hs : (sealL l).set a z = l.set a z ++ leB (crcI l) 2 := by rw [sealL, List.set_append_left _ _ ha]
  have ht : (l.set a z ++ leB (crcI l) 2).take l.length = l.set a z := by
    rw [List.take_append_of_le_length (by simp), List.take_of_length_le (by simp)]
  refine ⟨?_, by rw [hs, ht]⟩
  rw [openB, hs]
  have e : (l.set a z ++ leB (crcI l) 2).length - 2 = l.length := by simp [leB_length]
  rw [e, ht]
  have hno : ¬ sealL (l.set a z) = l.set a z ++ leB (crcI l) 2 := by
    intro h
    rw [sealL] at h
    exact crc_set_ne ha hl hz hne (leB_two_inj (tI_lt _) (tI_lt _) (List.append_cancel_left h))
  rw [decide_eq_false hno, Bool.and_false]
theorem reads_put {w : World} {g n cap : Nat} {ok : Nat → Prop} {xs : List Int} (h : Kd.R (Kd.int .u8) 5 w 0 ok (.slice (some ⟨g, 0, none⟩) n cap) xs) (a : Nat) (z : Int) :
    ReadsInt (w.setCell ⟨g, a, none⟩ (.int .u8 z)) .u8 (some ⟨g, 0, none⟩) n (xs.set a z) := by
  obtain ⟨A, c, he, hr⟩ := reads_own (Kd.R_putn h a z)
  injection he with h1 h2 h3
  rw [h1, h2]
  exact hr
set_option maxHeartbeats 1000000 in
theorem turned_small (A : Option Addr) (c : Nat) (l : List Int) (a : Nat) (t : Int) (w : World) (hr : ReadsInt w .u8 A l.length l) (hb : Bys l) (ha : a < l.length) (h : l.length ≤ 20000) (ht0 : ¬ t = 0) (ht1 : 0 ≤ t ∧ t < 256) :
    Calls Try.prog 5 #[.slice A l.length c, .int .i64 a, .int .u8 t] w fun e w' => e = .returned (.bool true) ∧ Below w.heap.size w w' := by
  have HR := Aside0.mk hr
  have htb : (t == 0) = false := by simpa using ht0
  obtain ⟨hrd0, hrd1⟩ := rd_bys hb a
  obtain ⟨z, hz⟩ : ∃ z, z = bits .xor .u8 (rd l a) t := ⟨_, rfl⟩
  have hz2 : z = (((rd l a).toNat ^^^ t.toNat : Nat) : Int) := by rw [hz, u8_xor _ _ hrd0 hrd1 ht1.1 ht1.2]
  have hzr : 0 ≤ z ∧ z < 256 := by
    have : (rd l a).toNat ^^^ t.toNat < 2 ^ 8 := Nat.xor_lt_two_pow (by omega) (by omega)
    omega
  have hzn : z ≠ rd l a := by
    intro he
    have h1 : (rd l a).toNat ^^^ t.toNat = (rd l a).toNat := by omega
    have h2 : (rd l a).toNat ^^^ ((rd l a).toNat ^^^ t.toNat) = (rd l a).toNat ^^^ (rd l a).toNat := by rw [h1]
    rw [← Nat.xor_assoc, Nat.xor_self, Nat.zero_xor] at h2
    omega
  obtain ⟨hno, htk⟩ := seal_set_no ha hb hzr hzn
  have HNO := Aside0.mk hno
  have HTK := Aside0.mk htk
  have HNE := Aside0.mk (crc_set_ne ha hb hzr hzn)
  have hz' := hz.symm
  obtain ⟨hz0, hz1⟩ := hzr
  clear hz hz2 hzn hno htk ht0
  obtain ⟨l2, hl2⟩ : ∃ l2, l2 = l.set a z := ⟨_, rfl⟩
  rw [← hl2] at HTK HNE
  have HLL : Aside0 (l2.length = l.length) := ⟨by rw [hl2]; simp⟩
  clear hl2
  obtain ⟨n1, hn1⟩ : ∃ n, n = crcI l := ⟨_, rfl⟩
  obtain ⟨n2, hn2⟩ : ∃ n, n = crcI l2 := ⟨_, rfl⟩
  rw [← hn1, ← hn2] at HNE
  have HN1 := Aside0.mk hn1
  have HN2 := Aside0.mk hn2
  have hnn : (n2 != n1) = true := by simpa using HNE.out
  clear hn1 hn2 HNE
  have HSL := Aside0.mk (sealL_length l)
  obtain ⟨s, hs⟩ : ∃ s, s = sealL l := ⟨_, rfl⟩
  have hsl : s.length = l.length + 2 := by rw [hs]; exact HSL.out
  have HRS := Aside0.mk (show rdOf 0 s a = rd l a by
    rw [hs, rdOf, rd, sealL, List.getD_eq_getElem?_getD, List.getD_eq_getElem?_getD, List.getElem?_append_left (by simpa using ha)])
  rw [← hs] at HNO HTK
  have HS := Aside0.mk hs
  clear hs
  have hc2 : l.length + 8 ≤ 140737488355328 := by omega
  clear hr hb
  go_enter Try.func5, Try.ntmps5
  go_wp2_with (first | (go_at_call 14; (with_reducible refine (seal_calls A c l w HR.out hc2).mono ?_); rw [← HS.out]; rintro e w1 ⟨v1, rfl, hr1, hb1⟩; obtain ⟨g, cap, rfl, hg1, hg2, hcap, hcap2⟩ := own_slice_form hr1 (by omega); obtain ⟨hcell, hfro⟩ := Kd.R_celln (d := (0 : Int)) hr1 a (by omega) (by omega); rw [Int.toNat_natCast] at hcell hfro; rw [HRS.out] at hcell; have HR1 := Aside0.mk (reads_put hr1 a z); have HB1 := Aside0.mk (hb1.setCell (p := ⟨g, a, none⟩) hg2 (.int .u8 z)); rw [hsl] at hcap ⊢; rw [hsl] at HR1; clear hr1 hb1 hg1 hg2; have htk := take_run (some ⟨g, 0, none⟩) cap (l.length + 2) l.length (by omega) (by omega) (by omega)) | (go_at_call 9; (with_reducible refine (calls_at' (by rw [List.length_set, hsl]) (open_calls (some ⟨g, 0, none⟩) cap (s.set a z) _ (by rw [List.length_set, hsl]; exact HR1.out) (by rw [List.length_set, hsl]; exact hcap) (by rw [List.length_set, hsl]; omega))).mono ?_); rw [HNO.out]; rintro e w2 ⟨v2, rfl, hr2, hb2⟩; have HB2 := Aside0.mk (HB1.out.trans (hb2.mono (Nat.le_trans HB1.out.size (Nat.le_refl _)))); have HT2 := Aside0.mk (show ReadsInt w2 .u8 (some ⟨g, 0, none⟩) l2.length l2 by have h1 := reads_take (l := s.set a z) (k := l.length) (by rw [List.length_set, hsl]; omega) (by rw [List.length_set, hsl]; exact HR1.out.below hb2); rw [HTK.out] at h1; exact h1); clear hr2 hb2) | (go_at_call 8; (with_reducible refine (crc_alive _).mono ?_); rintro e wA ⟨rfl, hbA⟩; have HBA := Aside0.mk (bel_step HB2.out hbA); have HTA := Aside0.mk (HT2.out.below hbA); clear hbA) | (go_at_call 13; (with_reducible refine (sum_one l2 (some ⟨g, 0, none⟩) cap wA.heap.size 1 _ (by rw [HLL.out]; exact heap_alloc_new wA _) (HTA.out.below (below_alloc (Below.refl _ _) _)) (by rw [HLL.out]; omega)).mono ?_); rw [← HN2.out]; rintro e w3 ⟨rfl, hb3⟩; have HB3 := Aside0.mk (bel_step (below_alloc HBA.out _) hb3); clear hb3) | (go_at_call 13; (with_reducible refine (sum_one l A c w3.heap.size 1 _ (heap_alloc_new w3 _) (HR.out.below (below_alloc HB3.out _)) (by omega)).mono ?_); rw [← HN1.out]; rintro e w4 ⟨rfl, hb4⟩; have HB4 := Aside0.mk (bel_step (below_alloc HB3.out _) hb4); clear hb4))
  go_ret
  exact ⟨rfl, HB4.out⟩
theorem crcTurned_walk (A : Option Addr) (c : Nat) (l : List Int) (at_ t : Int) (w : World) (hr : ReadsInt w .u8 A l.length l) (hb : Bys l) (_y : l.length ≤ 140737488351232) (_h : (Lit.int .i64 at_).wf = true) (ht : (Lit.int .u8 t).wf = true) :
    Calls Try.prog 5 #[.slice A l.length c, .int .i64 at_, .int .u8 t] w fun e w' => e = .returned (.bool true) ∧ Below w.heap.size w w' := by
  by_cases h : 20000 < l.length ∨ at_ < 0 ∨ (l.length : Int) ≤ at_ ∨ t = 0
  · exact turned_big A c l at_ t w hr.2.1 h
  · obtain ⟨a, rfl⟩ := Int.eq_ofNat_of_zero_le (show 0 ≤ at_ by omega)
    exact turned_small A c l a t w hr hb (by omega) (by omega) (by omega) (wf_u8 ht)
end Go.Proofs.Ytjmmafonidgimaa.Hand
