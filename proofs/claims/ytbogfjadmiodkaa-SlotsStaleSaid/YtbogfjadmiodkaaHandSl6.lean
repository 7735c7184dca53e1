/- A Make that finds nothing; New, Used, Pack and Unpack. -/
import Derived.Test.YtbogfjadmiodkaaHandSl2
namespace Go.Proofs.Ytbogfjadmiodkaa.Hand
open Go.RowKit Go.Proofs.YtbogfjadmiodkaaW.PrintWords

theorem make_none (w : World) (p : Nat) (v : Value) (L : List Sl) (n : Int) (h : HasSl w p v L) (hk : L.findIdx? freeP = none) (hl : L.length ≤ 65536) :
    Calls Try.prog 30 #[.pointer (some ⟨p, 0, none⟩), .int .u64 n] w fun e w' => e = .returned (.tuple #[(.agg #[.int .i64 0, .int .i64 0] : Value), .int .i64 110]) ∧ Below w.heap.size w w' := by
  obtain ⟨A, c, hv, hlc, hC⟩ := flat_reads h.row
  subst hv
  have hc := cell_alloc (cell_of_one h.ptr)
  have HH := Aside0.mk h
  have HK := Aside0.mk (show ∀ j y, L[j]? = some y → freeP y = false by
    intro j y hy
    have h1 := List.findIdx?_eq_none_iff.1 hk y (List.mem_of_getElem? hy)
    simpa using h1)
  clear h hk hC
  go_enter Try.func30, Try.ntmps30
  go_wp2
  go_loopw [13] (fun i wr => ∃ j : Nat, j ≤ L.length ∧ i = .int .i64 j ∧ Aside0 (Below w.heap.size w wr) ∧ Aside0 (wr.heap[w.heap.size]? = some (.cells #[.int .i64 0, .int .i64 0] 23 (0, 0)))) (fun i _ => (L.length - intOf i).toNat)
  case atStart => exact ⟨0, Nat.zero_le _, rfl, ⟨below_alloc (Below.refl _ _) _⟩, ⟨heap_alloc_new w _⟩⟩
  case round =>
    obtain ⟨j, hj, rfl, HB, HZ⟩ := hrel
    by_cases hjl : j < L.length
    · obtain ⟨y, hy⟩ : ∃ y, L[j]? = some y := ⟨_, List.getElem?_eq_getElem hjl⟩
      have HS := HH.out.move HB.out
      rcases HS.form with ⟨hv, rfl⟩ | ⟨g, cap, hv, hg, hcap, hcap2⟩
      · simp at hjl
      obtain ⟨rfl, rfl⟩ : A = some ⟨g, 0, none⟩ ∧ c = cap := by injection hv with h1 h2 h3; exact ⟨h1, h3⟩
      obtain ⟨⟨c0, c1, c2⟩, f0, f1, f2⟩ := slot_cells HS hy
      have a0 := cell_alloc c0
      have a1 := cell_alloc c1
      have hfy := HK.out j y hy
      clear HS hv
      cases hyu : y.2.1 with
      | true =>
        rw [hyu] at c1 a1
        go_wp2
        go_roundw
        case rel => exact ⟨j + 1, by omega, by go_num, ⟨below_alloc HB.out _⟩, ⟨old_blk HZ.out _⟩⟩
        case measure => (simp [intOf]) <;> omega
      | false =>
        rw [hyu] at c1 a1
        have hyg : 65535 ≤ y.1 := by simpa [freeP, hyu] using hfy
        go_wp2
        go_roundw
        case rel => exact ⟨j + 1, by omega, by go_num, ⟨below_alloc HB.out _⟩, ⟨old_blk HZ.out _⟩⟩
        case measure => (simp [intOf]) <;> omega
    · obtain rfl : j = L.length := by omega
      have hzb := HZ.out
      have z0 := blk_cell hzb (i := 0) rfl
      have z1 := blk_cell hzb (i := 1) rfl
      have zf0 := blk_free hzb 0
      have zf1 := blk_free hzb 1
      clear hzb
      go_wp2
      refine bodyPost_ret (results_row_tmp rfl _ _ _ _ _ _ _ rfl (blk_set (blk_set HZ.out 0 _) 1 _) Try.underlying23 rfl (by kernel_rfl)) rfl ?_
      exact ⟨rfl, (HB.out.setCell (p := ⟨w.heap.size, 0, none⟩) (Nat.le_refl _) _).setCell (p := ⟨w.heap.size, 1, none⟩) (Nat.le_refl _) _⟩
theorem info_sl : (Try.prog.info? 70).map (fun i => (i.zero, i.size, i.bytes)) = some (some (.agg #[.int .i64 0, .bool false, .int .u64 0]), 3, 24) := by kernel_rfl
theorem new_calls (w : World) (n : Nat) (hn : n ≤ 256) :
    Calls Try.prog 17 #[.int .i64 n] w fun e w' => ∃ (p : Nat) (v : Value), e = .returned (.tuple #[.pointer (some ⟨p, 0, none⟩), .int .i64 0]) ∧ HasSl w' p v (List.replicate n (0, false, 0)) ∧ w.heap.size ≤ p ∧ (∀ k, v.ownBlock = some k → w.heap.size ≤ k) ∧ Below w.heap.size w w' := by
  obtain ⟨km, hR⟩ := make_flat (P := Try.prog) (hl := encSl_len) (h1 := encSl_one) 66 70 (0, false, 0) (.agg #[.int .i64 0, .bool false, .int .u64 0]) 24 Try.underlying66 info_sl rfl n (by omega) (by omega) w
  have HR := Aside0.mk hR
  clear hR
  go_enter Try.func17, Try.ntmps17
  go_wp2
  go_ret2
  refine ⟨w.heap.size + 1, _, rfl, ⟨alloc_two w _ _, ?_⟩, Nat.le_succ _, fun k hk => ?_, below_alloc (below_alloc (Below.refl _ _) _) _⟩
  · exact Kd.R_mono (Kd.R_below HR.out (below_alloc (Below.refl _ _) _)) (fun k hk => by omega)
  · have : w.heap.size = k := by simpa [Value.ownBlock] using hk
    omega
theorem new_no (w : World) (n : Int) (hn : n < 0 ∨ 256 < n) :
    Calls Try.prog 17 #[.int .i64 n] w fun e w' => e = .returned (.tuple #[.pointer none, .int .i64 1]) ∧ w = w' := by
  rcases hn with hn | hn
  · go_enter Try.func17, Try.ntmps17
    go_wp2
    go_ret2
    exact ⟨rfl, rfl⟩
  · go_enter Try.func17, Try.ntmps17
    go_wp2
    go_ret2
    exact ⟨rfl, rfl⟩
theorem used_calls (w : World) (p : Nat) (v : Value) (L : List Sl) (h : HasSl w p v L) (hl : L.length ≤ 65536) :
    Calls Try.prog 19 #[.pointer (some ⟨p, 0, none⟩)] w fun e w' => e = .returned (.int .i64 ((L.countP (·.2.1) : Nat) : Int)) ∧ Below w.heap.size w w' := by
  obtain ⟨A, c, hv, hlc, hC⟩ := flat_reads h.row
  subst hv
  have hc := cell_of_one h.ptr
  have HH := Aside0.mk h
  clear h hC
  go_enter Try.func19, Try.ntmps19
  go_wp2
  go_loopw [3, 11] (fun n i wr => ∃ j q : Nat, j ≤ L.length ∧ i = .int .i64 j ∧ n = .int .i64 q ∧ q ≤ j ∧ Aside0 (q = (L.take j).countP (·.2.1)) ∧ Aside0 (Below w.heap.size w wr)) (fun _ i _ => (L.length - intOf i).toNat)
  case atStart => exact ⟨0, 0, Nat.zero_le _, rfl, rfl, Nat.le_refl _, ⟨rfl⟩, ⟨Below.refl _ _⟩⟩
  case round =>
    obtain ⟨j, q, hj, rfl, rfl, hqj, HQ, HB⟩ := hrel
    by_cases hjl : j < L.length
    · obtain ⟨y, hy⟩ : ∃ y, L[j]? = some y := ⟨_, List.getElem?_eq_getElem hjl⟩
      have HS := HH.out.move HB.out
      rcases HS.form with ⟨hv, rfl⟩ | ⟨g, cap, hv, hg, hcap, hcap2⟩
      · simp at hjl
      obtain ⟨rfl, rfl⟩ : A = some ⟨g, 0, none⟩ ∧ c = cap := by injection hv with h1 h2 h3; exact ⟨h1, h3⟩
      obtain ⟨⟨c0, c1, c2⟩, f0, f1, f2⟩ := slot_cells HS hy
      have HT := Aside0.mk (show (L.take (j + 1)).countP (·.2.1) = (L.take j).countP (·.2.1) + if y.2.1 then 1 else 0 by
        rw [List.take_add_one, hy, List.countP_append]
        simp [List.countP_cons])
      clear HS hv
      cases hyu : y.2.1 with
      | true =>
        rw [hyu] at c1 HT
        go_wp2
        go_roundw
        case rel => exact ⟨j + 1, q + 1, by omega, by go_num, by go_num, by omega, ⟨by rw [HT.out, HQ.out]; rfl⟩, ⟨below_alloc HB.out _⟩⟩
        case measure => (simp [intOf]) <;> omega
      | false =>
        rw [hyu] at c1 HT
        go_wp2
        go_roundw
        case rel => exact ⟨j + 1, q, by omega, by go_num, rfl, by omega, ⟨by rw [HT.out, HQ.out]; rfl⟩, ⟨below_alloc HB.out _⟩⟩
        case measure => (simp [intOf]) <;> omega
    · obtain rfl : j = L.length := by omega
      go_wp2
      go_ret
      rw [HQ.out, List.take_of_length_le (Nat.le_refl _)]
      exact ⟨rfl, HB.out⟩
end Go.Proofs.Ytbogfjadmiodkaa.Hand
