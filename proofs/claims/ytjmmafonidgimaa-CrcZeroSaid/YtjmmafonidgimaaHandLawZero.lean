/- CrcZero, walked. -/
import Derived.Test.YtjmmafonidgimaaHandCrcAlive
namespace Go.Proofs.Ytjmmafonidgimaa.Hand
open Go.RowKit Go.Proofs.YtjmmafonidgimaaW.PrintWords

theorem zero_big (many : Int) (A : Option Addr) (c : Nat) (l : List Int) (w : World) (hl : l.length ≤ 9223372036854775807) (h : many < 0 ∨ 2000 < many ∨ 2000 < l.length) :
    Calls Try.prog 7 #[.int .i64 many, .slice A l.length c] w fun e w' => e = .returned (.bool true) ∧ Below w.heap.size w w' := by
  by_cases h1 : many < 0
  · go_enter Try.func7, Try.ntmps7
    go_wp2_with (go_at_call 8; (with_reducible refine (crc_alive _).mono ?_); rintro e wA ⟨rfl, hbA⟩; have HBA := Aside0.mk hbA; clear hbA)
    go_ret
    exact ⟨rfl, HBA.out⟩
  · by_cases h2 : 2000 < many
    · go_enter Try.func7, Try.ntmps7
      go_wp2_with (go_at_call 8; (with_reducible refine (crc_alive _).mono ?_); rintro e wA ⟨rfl, hbA⟩; have HBA := Aside0.mk hbA; clear hbA)
      go_ret
      exact ⟨rfl, HBA.out⟩
    · have h3 : 2000 < l.length := by omega
      go_enter Try.func7, Try.ntmps7
      go_wp2_with (go_at_call 8; (with_reducible refine (crc_alive _).mono ?_); rintro e wA ⟨rfl, hbA⟩; have HBA := Aside0.mk hbA; clear hbA)
      go_ret
      exact ⟨rfl, HBA.out⟩
set_option maxHeartbeats 1000000 in
theorem zero_small (n : Nat) (A : Option Addr) (c : Nat) (l : List Int) (w : World) (hr : ReadsInt w .u8 A l.length l) (h : n ≤ 2000) (h2 : l.length ≤ 2000) :
    Calls Try.prog 7 #[.int .i64 n, .slice A l.length c] w fun e w' => e = .returned (.bool true) ∧ Below w.heap.size w w' := by
  have HR := Aside0.mk hr
  clear hr
  obtain ⟨zl, hzl⟩ : ∃ zl, zl = List.replicate n (0 : Int) := ⟨_, rfl⟩
  have hn : n = zl.length := by rw [hzl]; simp
  have HZ : Aside0 (∀ W : World, ReadsInt (W.alloc (.cells (madeCells #[.int .u8 0] zl.length) 5)) .u8 (some ⟨W.heap.size, 0, none⟩) zl.length zl) := ⟨fun W => by
    obtain ⟨A', c', he, hrd⟩ := own_reads (own_made W 0 5 .u8 n (Nat.zero_le _) (by omega))
    cases he
    rw [← hn, hzl]
    simpa using hrd⟩
  have HC := Aside0.mk (show crcV 0#16 zl = 0#16 by rw [hzl, crcV_zeros])
  subst hn
  clear hzl
  have km := print_make (P := Try.prog) 22 5 .u8 1 Try.underlying22 info_u8 (by decide) zl.length (by omega)
  have hz : crcI zl = 0 := by rw [crcI, HC.out]; rfl
  have hzb : tI (crcV (crcV 0#16 zl) l) = crcI l := by rw [HC.out]; rfl
  go_enter Try.func7, Try.ntmps7
  go_wp2_with (first | (go_at_call 8; (with_reducible refine (crc_alive _).mono ?_); rintro e wA ⟨rfl, hbA⟩; have HBA := Aside0.mk (bel_step (below_alloc (Below.refl _ _) _) hbA); have HZA := Aside0.mk ((HZ.out w).below hbA); clear hbA) | (go_at_call 13; (with_reducible refine (sum_one zl (some ⟨w.heap.size, 0, none⟩) zl.length wA.heap.size 1 _ (heap_alloc_new wA _) (HZA.out.below (below_alloc (Below.refl _ _) _)) (by omega)).mono ?_); rintro e w1 ⟨rfl, hb1⟩; have HB1 := Aside0.mk (bel_step (below_alloc HBA.out _) hb1); have HZ1 := Aside0.mk (HZA.out.below (bel_step (below_alloc (Below.refl _ _) _) hb1)); clear hb1) | (go_at_call 13; (with_reducible refine (sum_two zl (some ⟨w.heap.size, 0, none⟩) zl.length l A c w1.heap.size 2 _ (heap_alloc_new w1 _) (HZ1.out.below (below_alloc (Below.refl _ _) _)) (HR.out.below (below_alloc HB1.out _)) (by omega) (by omega)).mono ?_); rintro e w2 ⟨rfl, hb2⟩; have HB2 := Aside0.mk (bel_step (below_alloc HB1.out _) hb2); clear hb2) | (go_at_call 13; (with_reducible refine (sum_one l A c w2.heap.size 1 _ (heap_alloc_new w2 _) (HR.out.below (below_alloc HB2.out _)) (by omega)).mono ?_); rintro e w3 ⟨rfl, hb3⟩; have HB3 := Aside0.mk (bel_step (below_alloc HB2.out _) hb3); clear hb3))
  go_ret
  exact ⟨rfl, HB3.out⟩
theorem crcZero_walk (many : Int) (A : Option Addr) (c : Nat) (l : List Int) (w : World) (_h : (Lit.int .i64 many).wf = true) (hr : ReadsInt w .u8 A l.length l) (_hb : Bys l) (_y : l.length ≤ 140737488351232) :
    Calls Try.prog 7 #[.int .i64 many, .slice A l.length c] w fun e w' => e = .returned (.bool true) ∧ Below w.heap.size w w' := by
  by_cases h : many < 0 ∨ 2000 < many ∨ 2000 < l.length
  · exact zero_big many A c l w hr.2.1 h
  · obtain ⟨n, rfl⟩ := Int.eq_ofNat_of_zero_le (show 0 ≤ many by omega)
    exact zero_small n A c l w hr (by omega) (by omega)
end Go.Proofs.Ytjmmafonidgimaa.Hand
