/- Pack and Unpack, of the program and of the document. -/
import Derived.Test.YtbogfjadmiodkaaHandMem
import Derived.Test.YtbogfjadmiodkaaHandPuts2
import Derived.Deep.QuietTactic
import Derived.Deep.RegionHeld
namespace Go.Proofs.Ytbogfjadmiodkaa.Hand
open Go.RowKit Go.Proofs.YtbogfjadmiodkaaW.PrintWords

def packM (a b : Int) : Int := if 0 ≤ a ∧ a < 65536 ∧ 1 ≤ b ∧ b ≤ 65535 then a * 65536 + b else 0
theorem packM_yes {a b : Int} (h : 0 ≤ a ∧ a < 65536 ∧ 1 ≤ b ∧ b ≤ 65535) : packM a b = a * 65536 + b := if_pos h
theorem packM_no {a b : Int} (h : ¬ (0 ≤ a ∧ a < 65536 ∧ 1 ≤ b ∧ b ≤ 65535)) : packM a b = 0 := if_neg h
theorem pack_calls (a b : Int) (w : World) : Calls Try.prog 12 #[.agg #[.int .i64 a, .int .i64 b]] w fun e w' => e = .returned (.int .u64 (packM a b)) ∧ Below w.heap.size w w' := by
  by_cases h1 : 0 ≤ a
  · by_cases h2 : a < 65536
    · by_cases h3 : 1 ≤ b
      · by_cases h4 : b ≤ 65535
        · have HP := Aside0.mk (packM_yes ⟨h1, h2, h3, h4⟩)
          go_enter Try.func12, Try.ntmps12
          go_wp2
          go_ret
          exact ⟨by rw [HP.out]; first | rfl | exact congrArg (fun x => Ending.returned (Value.int .u64 x)) (by omega), below_alloc (Below.refl _ _) _⟩
        · go_enter Try.func12, Try.ntmps12
          go_wp2
          go_ret
          exact ⟨by rw [packM_no (by omega)]; rfl, below_alloc (Below.refl _ _) _⟩
      · go_enter Try.func12, Try.ntmps12
        go_wp2
        go_ret
        exact ⟨by rw [packM_no (by omega)]; rfl, below_alloc (Below.refl _ _) _⟩
    · go_enter Try.func12, Try.ntmps12
      go_wp2
      go_ret
      exact ⟨by rw [packM_no (by omega)]; rfl, below_alloc (Below.refl _ _) _⟩
  · go_enter Try.func12, Try.ntmps12
    go_wp2
    go_ret
    exact ⟨by rw [packM_no (by omega)]; rfl, below_alloc (Below.refl _ _) _⟩
theorem rPack_calls (a b : Int) (w : World) : Calls Try.prog 14 #[.agg #[.int .i64 a, .int .i64 b]] w fun e w' => e = .returned (.int .u64 (packM a b)) ∧ Below w.heap.size w w' := by
  by_cases h1 : 0 ≤ a
  · by_cases h2 : a < 65536
    · by_cases h3 : 1 ≤ b
      · by_cases h4 : b ≤ 65535
        · have HP := Aside0.mk (packM_yes ⟨h1, h2, h3, h4⟩)
          go_enter Try.func14, Try.ntmps14
          go_wp2
          go_ret
          exact ⟨by rw [HP.out]; first | rfl | exact congrArg (fun x => Ending.returned (Value.int .u64 x)) (by omega), below_alloc (Below.refl _ _) _⟩
        · go_enter Try.func14, Try.ntmps14
          go_wp2
          go_ret
          exact ⟨by rw [packM_no (by omega)]; rfl, below_alloc (Below.refl _ _) _⟩
      · go_enter Try.func14, Try.ntmps14
        go_wp2
        go_ret
        exact ⟨by rw [packM_no (by omega)]; rfl, below_alloc (Below.refl _ _) _⟩
    · go_enter Try.func14, Try.ntmps14
      go_wp2
      go_ret
      exact ⟨by rw [packM_no (by omega)]; rfl, below_alloc (Below.refl _ _) _⟩
  · go_enter Try.func14, Try.ntmps14
    go_wp2
    go_ret
    exact ⟨by rw [packM_no (by omega)]; rfl, below_alloc (Below.refl _ _) _⟩
def unpackM (n : Int) : Int × Int := if n < 4294967296 ∧ ¬ n % 65536 = 0 then (n / 65536, n % 65536) else (0, 0)
theorem unpack_calls (n : Int) (h0 : 0 ≤ n) (h1 : n < 18446744073709551616) (w : World) : Calls Try.prog 15 #[.int .u64 n] w fun e w' => e = .returned (.agg #[.int .i64 (unpackM n).1, .int .i64 (unpackM n).2]) ∧ Below w.heap.size w w' := by
  by_cases h2 : n < 4294967296
  · by_cases h3 : n % 65536 = 0
    · have HU := Aside0.mk (show unpackM n = (0, 0) from if_neg (by omega))
      have h3b : (n % 65536 == 0) = true := by simpa using h3
      clear h3
      go_enter Try.func15, Try.ntmps15
      go_wp2
      refine bodyPost_ret (results_cell_row rfl _ _ _ _ _ _ _ rfl (heap_alloc_new w _) Try.underlying23 rfl (by kernel_rfl)) rfl ?_
      rw [HU.out]
      exact ⟨rfl, below_alloc (Below.refl _ _) _⟩
    · have HU := Aside0.mk (show unpackM n = (n / 65536, n % 65536) from if_pos ⟨h2, h3⟩)
      have h3b : (n % 65536 == 0) = false := by simpa using h3
      clear h3
      go_enter Try.func15, Try.ntmps15
      go_wp2
      refine bodyPost_ret (results_cell_row rfl _ _ _ _ _ _ _ rfl (heap_alloc_new w _) Try.underlying23 rfl (by kernel_rfl)) rfl ?_
      rw [HU.out]
      exact ⟨rfl, below_alloc (Below.refl _ _) _⟩
  · have HU := Aside0.mk (show unpackM n = (0, 0) from if_neg (by omega))
    go_enter Try.func15, Try.ntmps15
    go_wp2
    refine bodyPost_ret (results_cell_row rfl _ _ _ _ _ _ _ rfl (heap_alloc_new w _) Try.underlying23 rfl (by kernel_rfl)) rfl ?_
    rw [HU.out]
    exact ⟨rfl, below_alloc (Below.refl _ _) _⟩
theorem rUnpack_calls (n : Int) (h0 : 0 ≤ n) (h1 : n < 18446744073709551616) (w : World) : Calls Try.prog 16 #[.int .u64 n] w fun e w' => e = .returned (.agg #[.int .i64 (unpackM n).1, .int .i64 (unpackM n).2]) ∧ Below w.heap.size w w' := by
  by_cases hn : n = 0
  · subst hn
    go_enter Try.func16, Try.ntmps16
    go_wp2
    refine bodyPost_ret (results_cell_row rfl _ _ _ _ _ _ _ rfl (old_blk (heap_alloc_new w _) _) Try.underlying23 rfl (by kernel_rfl)) rfl ?_
    exact ⟨rfl, below_alloc (below_alloc (Below.refl _ _) _) _⟩
  · have hnb : (n == 0) = false := by simpa using hn
    by_cases hp : packM (n / 65536 % 65536) (n % 65536) = n
    · have HU := Aside0.mk (show unpackM n = (n / 65536 % 65536, n % 65536) by
        unfold packM at hp
        split at hp
        · rename_i h2
          rw [unpackM, if_pos (by omega), show n / 65536 % 65536 = n / 65536 by omega]
        · omega)
      have HP := Aside0.mk hp
      clear hn hp
      go_enter Try.func16, Try.ntmps16
      go_wp2_with (go_at_call 14; (with_reducible refine (rPack_calls _ _ _).mono ?_); rw [HP.out]; rintro e w1 ⟨rfl, hb1⟩; have HB1 := Aside0.mk (bel_step (below_alloc (below_alloc (Below.refl _ _) _) _) hb1); have hv0 := (hb1.block w.heap.size (by simp; omega)).trans (old_blk (heap_alloc_new w _) _); have hv1 := (hb1.block (w.heap.size + 1) (by simp)).trans (alloc_two w _ _); have HV0 := Aside0.mk hv0; have x0 := blk_cell hv0 (i := 0) rfl; have x1 := blk_cell hv0 (i := 1) rfl; have xf0 := blk_free hv0 0; have xf1 := blk_free hv0 1; have y0 := blk_cell hv1 (i := 0) rfl; have y1 := blk_cell hv1 (i := 1) rfl; clear hv0 hv1 hb1)
      refine bodyPost_ret (results_cell_row rfl _ _ _ _ _ _ _ rfl (blk_set (blk_set HV0.out 0 _) 1 _) Try.underlying23 rfl (by kernel_rfl)) rfl ?_
      rw [HU.out]
      exact ⟨rfl, (HB1.out.setCell (p := ⟨w.heap.size, 0, none⟩) (Nat.le_refl _) _).setCell (p := ⟨w.heap.size, 1, none⟩) (Nat.le_refl _) _⟩
    · have HU := Aside0.mk (show unpackM n = (0, 0) by
        unfold packM at hp
        rw [unpackM, if_neg]
        intro h
        rw [if_pos (by omega)] at hp
        omega)
      obtain ⟨q, hq⟩ : ∃ q, q = packM (n / 65536 % 65536) (n % 65536) := ⟨_, rfl⟩
      have hqn : (q == n) = false := by simpa [hq] using hp
      have HP := Aside0.mk hq.symm
      clear hn hp hq
      go_enter Try.func16, Try.ntmps16
      go_wp2_with (go_at_call 14; (with_reducible refine (rPack_calls _ _ _).mono ?_); rw [HP.out]; rintro e w1 ⟨rfl, hb1⟩; have HB1 := Aside0.mk (bel_step (below_alloc (below_alloc (Below.refl _ _) _) _) hb1); have hv0 := (hb1.block w.heap.size (by simp; omega)).trans (old_blk (heap_alloc_new w _) _); have hv1 := (hb1.block (w.heap.size + 1) (by simp)).trans (alloc_two w _ _); have HV0 := Aside0.mk hv0; have x0 := blk_cell hv0 (i := 0) rfl; have x1 := blk_cell hv0 (i := 1) rfl; have xf0 := blk_free hv0 0; have xf1 := blk_free hv0 1; have y0 := blk_cell hv1 (i := 0) rfl; have y1 := blk_cell hv1 (i := 1) rfl; clear hv0 hv1 hb1)
      refine bodyPost_ret (results_cell_row rfl _ _ _ _ _ _ _ rfl (blk_set (blk_set HV0.out 0 _) 1 _) Try.underlying23 rfl (by kernel_rfl)) rfl ?_
      rw [HU.out]
      exact ⟨rfl, (HB1.out.setCell (p := ⟨w.heap.size, 0, none⟩) (Nat.le_refl _) _).setCell (p := ⟨w.heap.size, 1, none⟩) (Nat.le_refl _) _⟩
end Go.Proofs.Ytbogfjadmiodkaa.Hand
