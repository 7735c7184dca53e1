/- What Get, Swing and Free do of a handle that is not good; a Make that finds nothing; New, Used. -/
import Derived.Test.YtbogfjadmiodkaaHandSl4
namespace Go.Proofs.Ytbogfjadmiodkaa.Hand
open Go.RowKit Go.Proofs.YtbogfjadmiodkaaW.PrintWords
theorem stale_of {L : List Sl} {a b : Int} (h : goodM L (a, b) = false) : atM L a = none ∨ ∃ g, atM L a = some g ∧ ¬ g = b := by
  unfold goodM at h
  cases ha : atM L a with
  | none => exact .inl rfl
  | some g =>
    rw [ha] at h
    exact .inr ⟨g, rfl, by simpa using h⟩
theorem swing_stale (w : World) (p : Nat) (v : Value) (L : List Sl) (a b n : Int) (h : HasSl w p v L) (hs : goodM L (a, b) = false) :
    Calls Try.prog 28 #[.pointer (some ⟨p, 0, none⟩), .agg #[.int .i64 a, .int .i64 b], .int .u64 n] w fun e w' => e = .returned (.int .i64 111) ∧ Below w.heap.size w w' := by
  have HH := Aside0.mk h
  rcases stale_of hs with hn | ⟨q, hq, hqb⟩
  · have HA := Aside0.mk (atV_none hn)
    clear h hs hn
    go_enter Try.func28, Try.ntmps28
    go_wp2_with (first | ((go_at_call 32; (with_reducible refine (at_calls _ p v L a (HH.out.move (by first | exact below_alloc (below_alloc (below_alloc (Below.refl _ _) _) _) _ | exact below_alloc (below_alloc (Below.refl _ _) _) _ | exact below_alloc (Below.refl _ _) _))).mono ?_); rw [HA.out]; rintro e w1 ⟨rfl, hb1⟩; have HB1 := Aside0.mk (bel_step (by first | exact below_alloc (below_alloc (below_alloc (Below.refl _ _) _) _) _ | exact below_alloc (below_alloc (Below.refl _ _) _) _ | exact below_alloc (Below.refl _ _) _) hb1)); clear hb1) | go_in)
    go_ret
    exact ⟨rfl, below_alloc HB1.out _⟩
  · have HA := Aside0.mk (atV_some hq)
    have hqb' : (q == b) = false := by simpa using hqb
    clear h hs hq
    go_enter Try.func28, Try.ntmps28
    go_wp2_with (first | ((go_at_call 32; (with_reducible refine (at_calls _ p v L a (HH.out.move (by first | exact below_alloc (below_alloc (below_alloc (Below.refl _ _) _) _) _ | exact below_alloc (below_alloc (Below.refl _ _) _) _ | exact below_alloc (Below.refl _ _) _))).mono ?_); rw [HA.out]; rintro e w1 ⟨rfl, hb1⟩; have HB1 := Aside0.mk (bel_step (by first | exact below_alloc (below_alloc (below_alloc (Below.refl _ _) _) _) _ | exact below_alloc (below_alloc (Below.refl _ _) _) _ | exact below_alloc (Below.refl _ _) _) hb1)); have hhb := (hb1.block (w.heap.size + 1 + 1) (by simp)).trans (alloc_three w _ _ _); have hh0 := cell_alloc (blk_cell hhb (i := 0) rfl); have hh1 := cell_alloc (blk_cell hhb (i := 1) rfl); clear hhb; clear hb1) | go_in)
    go_ret
    exact ⟨rfl, below_alloc HB1.out _⟩
theorem free_stale (w : World) (p : Nat) (v : Value) (L : List Sl) (a b : Int) (h : HasSl w p v L) (hs : goodM L (a, b) = false) :
    Calls Try.prog 29 #[.pointer (some ⟨p, 0, none⟩), .agg #[.int .i64 a, .int .i64 b]] w fun e w' => e = .returned (.int .i64 111) ∧ Below w.heap.size w w' := by
  have HH := Aside0.mk h
  rcases stale_of hs with hn | ⟨q, hq, hqb⟩
  · have HA := Aside0.mk (atV_none hn)
    clear h hs hn
    go_enter Try.func29, Try.ntmps29
    go_wp2_with (first | ((go_at_call 32; (with_reducible refine (at_calls _ p v L a (HH.out.move (by first | exact below_alloc (below_alloc (below_alloc (Below.refl _ _) _) _) _ | exact below_alloc (below_alloc (Below.refl _ _) _) _ | exact below_alloc (Below.refl _ _) _))).mono ?_); rw [HA.out]; rintro e w1 ⟨rfl, hb1⟩; have HB1 := Aside0.mk (bel_step (by first | exact below_alloc (below_alloc (below_alloc (Below.refl _ _) _) _) _ | exact below_alloc (below_alloc (Below.refl _ _) _) _ | exact below_alloc (Below.refl _ _) _) hb1)); clear hb1) | go_in)
    go_ret
    exact ⟨rfl, below_alloc HB1.out _⟩
  · have HA := Aside0.mk (atV_some hq)
    have hqb' : (q == b) = false := by simpa using hqb
    clear h hs hq
    go_enter Try.func29, Try.ntmps29
    go_wp2_with (first | ((go_at_call 32; (with_reducible refine (at_calls _ p v L a (HH.out.move (by first | exact below_alloc (below_alloc (below_alloc (Below.refl _ _) _) _) _ | exact below_alloc (below_alloc (Below.refl _ _) _) _ | exact below_alloc (Below.refl _ _) _))).mono ?_); rw [HA.out]; rintro e w1 ⟨rfl, hb1⟩; have HB1 := Aside0.mk (bel_step (by first | exact below_alloc (below_alloc (below_alloc (Below.refl _ _) _) _) _ | exact below_alloc (below_alloc (Below.refl _ _) _) _ | exact below_alloc (Below.refl _ _) _) hb1)); have hhb := (hb1.block (w.heap.size + 1) (by simp)).trans (alloc_two w _ _); have hh0 := cell_alloc (blk_cell hhb (i := 0) rfl); have hh1 := cell_alloc (blk_cell hhb (i := 1) rfl); clear hhb; clear hb1) | go_in)
    go_ret
    exact ⟨rfl, below_alloc HB1.out _⟩
theorem get_stale (w : World) (p : Nat) (v : Value) (L : List Sl) (a b : Int) (h : HasSl w p v L) (hs : goodM L (a, b) = false) :
    Calls Try.prog 27 #[.pointer (some ⟨p, 0, none⟩), .agg #[.int .i64 a, .int .i64 b]] w fun e w' => e = .returned (.tuple #[.int .u64 0, .int .i64 111]) ∧ Below w.heap.size w w' := by
  have HH := Aside0.mk h
  rcases stale_of hs with hn | ⟨q, hq, hqb⟩
  · have HA := Aside0.mk (atV_none hn)
    clear h hs hn
    go_enter Try.func27, Try.ntmps27
    go_wp2_with (first | ((go_at_call 32; (with_reducible refine (at_calls _ p v L a (HH.out.move (by first | exact below_alloc (below_alloc (below_alloc (Below.refl _ _) _) _) _ | exact below_alloc (below_alloc (Below.refl _ _) _) _ | exact below_alloc (Below.refl _ _) _))).mono ?_); rw [HA.out]; rintro e w1 ⟨rfl, hb1⟩; have HB1 := Aside0.mk (bel_step (by first | exact below_alloc (below_alloc (below_alloc (Below.refl _ _) _) _) _ | exact below_alloc (below_alloc (Below.refl _ _) _) _ | exact below_alloc (Below.refl _ _) _) hb1)); have hvb := (hb1.block (w.heap.size + 1) (by simp)).trans (old_blk (alloc_two w _ _) _); have hvc := cell_alloc (blk_cell hvb (i := 0) rfl); have hvf := free_alloc (blk_free hvb 0) (blk_lt hvb); have HVB := Aside0.mk hvb; clear hvb hb1) | go_in)
    refine bodyPost_ret (results_one_tmp rfl _ _ (w.heap.size + 1) _ rfl (blk_cell (blk_set (old_blk HVB.out _) 0 _) (i := 0) rfl) Try.underlying24 rfl) rfl ?_
    exact ⟨rfl, (below_alloc HB1.out _).setCell (p := ⟨w.heap.size + 1, 0, none⟩) (by simp) _⟩
  · have HA := Aside0.mk (atV_some hq)
    have hqb' : (q == b) = false := by simpa using hqb
    clear h hs hq
    go_enter Try.func27, Try.ntmps27
    go_wp2_with (first | ((go_at_call 32; (with_reducible refine (at_calls _ p v L a (HH.out.move (by first | exact below_alloc (below_alloc (below_alloc (Below.refl _ _) _) _) _ | exact below_alloc (below_alloc (Below.refl _ _) _) _ | exact below_alloc (Below.refl _ _) _))).mono ?_); rw [HA.out]; rintro e w1 ⟨rfl, hb1⟩; have HB1 := Aside0.mk (bel_step (by first | exact below_alloc (below_alloc (below_alloc (Below.refl _ _) _) _) _ | exact below_alloc (below_alloc (Below.refl _ _) _) _ | exact below_alloc (Below.refl _ _) _) hb1)); have hhb := (hb1.block (w.heap.size + 1 + 1) (by simp)).trans (alloc_three w _ _ _); have hh0 := cell_alloc (blk_cell hhb (i := 0) rfl); have hh1 := cell_alloc (blk_cell hhb (i := 1) rfl); clear hhb; have hvb := (hb1.block (w.heap.size + 1) (by simp)).trans (old_blk (alloc_two w _ _) _); have hvc := cell_alloc (blk_cell hvb (i := 0) rfl); have hvf := free_alloc (blk_free hvb 0) (blk_lt hvb); have HVB := Aside0.mk hvb; clear hvb hb1) | go_in)
    refine bodyPost_ret (results_one_tmp rfl _ _ (w.heap.size + 1) _ rfl (blk_cell (blk_set (old_blk HVB.out _) 0 _) (i := 0) rfl) Try.underlying24 rfl) rfl ?_
    exact ⟨rfl, (below_alloc HB1.out _).setCell (p := ⟨w.heap.size + 1, 0, none⟩) (by simp) _⟩
end Go.Proofs.Ytbogfjadmiodkaa.Hand
