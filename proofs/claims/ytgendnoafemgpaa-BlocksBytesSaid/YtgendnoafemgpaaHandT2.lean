/- What a claim needs of the walks and contracts, part 2. -/
import Derived.ProofKit
import Derived.OpenShut
import Derived.Test.YtgendnoafemgpaaHandT1
namespace Go.Proofs.Ytgendnoafemgpaa.Hand
attribute [local go_sem] Oper.semAt_some
open Go.RowKit Go.Maps Go.Sort Go.Shelf Go.Proofs.YtgendnoafemgpaaW.PrintWords Go.Proofs.YtgendnoafemgpaaW.PrintLast
set_option linter.unusedVariables false
set_option linter.unusedSimpArgs false
def claimP (at_ n : Nat) (g : Pc) : Bool := decide (g.1 ≤ at_ ∧ at_ + n ≤ g.1 + g.2)
def ClaimOut (w : World) (p s U : Nat) (bs : List Pc) (at_ n : Nat) (e : Ending) (w' : World) : Prop :=
  match (gaps 0 bs U).find? (claimP at_ n) with
  | none => e = .returned (.int .i64 100) ∧ HasB w' p s U bs ∧ Fr (fun b => b = s) w w'
  | some g => e = .returned (.int .i64 0) ∧ HasB w' p s U (ins at_ n bs) ∧ Fr (fun b => b = s) w w'
set_option maxRecDepth 100000 in
set_option maxHeartbeats 4000000 in
theorem claim_calls (w : World) (p s U : Nat) (bs : List Pc) (h : HasB w p s U bs) (a n : Nat) (hn : 1 ≤ n) (han : a + n ≤ U) : Calls Try.prog 22 #[.pointer (some ⟨p, 0, none⟩), .int .i64 (a : Int), .int .i64 (n : Int)] w (ClaimOut w p s U bs a n) := by
  have HH := Aside0.mk h
  have cU := h.c0
  have hmU := h.max
  have hwi : IntKind.i64.wrap ((U : Int) - n) = (U : Int) - n := IntWalk.i64_in _ (by omega)
  have cH := fun (w : World) => callsIn_wide (n := 14).2 (holes_calls w p)
  have hfH : Fence.wide.fn 32 := trivial
  obtain ⟨gs, hgs⟩ : ∃ gs, gs = gaps 0 bs U := ⟨_, rfl⟩
  have HG := Aside0.mk hgs
  obtain ⟨Po, hPo⟩ : ∃ Po, Po = ClaimOut w p s U bs a n := ⟨_, rfl⟩
  have HPO := Aside0.mk hPo
  rw [← hPo]
  clear h hgs hPo
  refine (callsIn_wide (n := 15)).1 ?_
  refine callsIn_of_wp_marks Try.func22 rfl trivial ?_ rfl
  simp only [Try.ntmps22, List.size_toArray, List.length_cons, List.length_nil, Nat.reduceAdd, Nat.reduceSub, Array.replicate_succ, Array.replicate_zero, List.push_toArray, List.append_toArray, List.nil_append, List.cons_append]
  gi_wp2
  obtain ⟨w0, hw0⟩ : ∃ w0, w0 = ((((w.alloc (.cells #[.pointer (some ⟨p, 0, none⟩)] 23)).alloc (.cells #[.int .i64 (a : Int)] 3)).alloc (.cells #[.int .i64 (n : Int)] 3)).alloc (.cells #[.int .i64 0] 24)) := ⟨_, rfl⟩
  rw [← hw0]
  obtain ⟨N, hN⟩ : ∃ N, N = w.heap.size := ⟨_, rfl⟩
  have HN := Aside0.mk hN
  have hz0 : w0.heap.size = N + 4 := by rw [hw0, hN]; simp
  have HBW0 := Aside0.mk (show Below w.heap.size w w0 by rw [hw0]; exact below_alloc (below_alloc (below_alloc (below_alloc (Below.refl _ _) _) _) _) _)
  have b0 : w0.heap[N]? = some (.cells #[.pointer (some ⟨p, 0, none⟩)] 23 (0, 0)) := by rw [hw0, hN]; exact old_blk (old_blk (old_blk (heap_alloc_new w _) _) _) _
  have b1 : w0.heap[N + 1]? = some (.cells #[.int .i64 (a : Int)] 3 (0, 0)) := by rw [hw0, hN]; exact old_blk (old_blk (alloc_two w _ _) _) _
  have b2 : w0.heap[N + 2]? = some (.cells #[.int .i64 (n : Int)] 3 (0, 0)) := by rw [hw0, hN]; exact old_blk (alloc_three w _ _ _) _
  have b3 : w0.heap[N + 3]? = some (.cells #[.int .i64 0] 24 (0, 0)) := by
    rw [hw0, hN]
    have := alloc_two ((w.alloc (.cells #[.pointer (some ⟨p, 0, none⟩)] 23)).alloc (.cells #[.int .i64 (a : Int)] 3)) (.cells #[.int .i64 (n : Int)] 3) (.cells #[.int .i64 0] 24)
    simpa using this
  have c0 := blk_cell b0 (i := 0) rfl
  have c1 := blk_cell b1 (i := 0) rfl
  have c2 := blk_cell b2 (i := 0) rfl
  have cp := bel_cellB HBW0.out cU
  have hb0 : decide ((n : Int) < 1) = false := by simp; omega
  have hb1 : decide ((a : Int) < 0) = false := by simp
  have hb2 : decide ((U : Int) < (n : Int)) = false := by simp; omega
  have hb2' : decide (U < n) = false := by simp; omega
  have hb4 : ¬ (U < n) := by omega
  have hb3 : decide ((U : Int) - (n : Int) < (a : Int)) = false := by simp; omega
  clear hw0
  rw [← hN]
  clear hN
  refine Ystart_ (m := 24) (S := fun w' => w'.cell? ⟨N, 0, none⟩ = some (.pointer (some ⟨p, 0, none⟩)) ∧ w'.cell? ⟨N + 1, 0, none⟩ = some (.int .i64 (a : Int)) ∧ w'.cell? ⟨N + 2, 0, none⟩ = some (.int .i64 (n : Int)) ∧ w'.cell? ⟨p, 0, none⟩ = some (.int .i64 (U : Int))) (ds := []) #[false, false, false, false, false, false, false, false, false, false, false, false, false, false, false, false, false, false, false, false, false, false, false, false] (by kernel_rfl) rfl rfl (fun _ => trivial) (by kernel_rfl) ⟨c0, c1, c2, cp⟩ (fun hHeld => ?_)
  refine Ytake_ (i := 0) (N := some 9) (v := ?_) (a' := ?_) #[true, false, false, false, false, false, false, false, false, false, false, false, false, false, false, false, false, false, false, false, false, false, false, false] rfl rfl (by kernel_rfl) (fun _ _ _ h => h) (Or.inl ⟨by rfl, ?_⟩) hHeld ?_ ?_
  rotate_left
  · rintro w' ⟨s0, s1, s2, s3⟩
    go_simp
    with_reducible rfl
  rotate_left
  · simp only [Act.put, List.setIfInBounds_toArray, List.set_cons_zero, List.set_cons_succ, i64_w, i32_w]
    rfl
  refine Ypure_ (i := 1) (N := some 10) (v := ?_) (a' := ?_) #[true, true, false, false, false, false, false, false, false, false, false, false, false, false, false, false, false, false, false, false, false, false, false, false] rfl rfl (by kernel_rfl) (fun _ _ _ h => h) (Or.inl ⟨by rfl, ?_⟩) ?_ ?_
  rotate_left
  · intro w'
    go_simp
    with_reducible rfl
  rotate_left
  · simp only [Act.put, List.setIfInBounds_toArray, List.set_cons_zero, List.set_cons_succ, i64_w, i32_w]
    rfl
  refine Ypure_ (i := 2) (N := some 11) (v := ?_) (a' := ?_) #[true, true, true, false, false, false, false, false, false, false, false, false, false, false, false, false, false, false, false, false, false, false, false, false] rfl rfl (by kernel_rfl) (fun _ _ _ h => h) (Or.inl ⟨by rfl, ?_⟩) ?_ ?_
  rotate_left
  · intro w'
    go_simp
    with_reducible rfl
  rotate_left
  · simp only [Act.put, List.setIfInBounds_toArray, List.set_cons_zero, List.set_cons_succ, i64_w, i32_w]
    rfl
  refine Ytake_ (i := 3) (N := some 12) (v := ?_) (a' := ?_) #[true, true, true, true, false, false, false, false, false, false, false, false, false, false, false, false, false, false, false, false, false, false, false, false] rfl rfl (by kernel_rfl) (fun _ _ _ h => h) (Or.inl ⟨by rfl, ?_⟩) hHeld ?_ ?_
  rotate_left
  · rintro w' ⟨s0, s1, s2, s3⟩
    go_simp
    with_reducible rfl
  rotate_left
  · simp only [Act.put, List.setIfInBounds_toArray, List.set_cons_zero, List.set_cons_succ, i64_w, i32_w]
    rfl
  refine Ypure_ (i := 4) (N := some 13) (v := ?_) (a' := ?_) #[true, true, true, true, true, false, false, false, false, false, false, false, false, false, false, false, false, false, false, false, false, false, false, false] rfl rfl (by kernel_rfl) (fun _ _ _ h => h) (Or.inl ⟨by rfl, ?_⟩) ?_ ?_
  rotate_left
  · intro w'
    go_simp
    with_reducible rfl
  rotate_left
  · simp only [Act.put, List.setIfInBounds_toArray, List.set_cons_zero, List.set_cons_succ, i64_w, i32_w]
    rfl
  refine Ypure_ (i := 5) (N := some 14) (v := ?_) (a' := ?_) #[true, true, true, true, true, true, false, false, false, false, false, false, false, false, false, false, false, false, false, false, false, false, false, false] rfl rfl (by kernel_rfl) (fun _ _ _ h => h) (Or.inl ⟨by rfl, ?_⟩) ?_ ?_
  rotate_left
  · intro w'
    go_simp
    with_reducible rfl
  rotate_left
  · simp only [Act.put, List.setIfInBounds_toArray, List.set_cons_zero, List.set_cons_succ, i64_w, i32_w]
    rfl
  refine Ypure_ (i := 6) (N := some 15) (v := ?_) (a' := ?_) #[true, true, true, true, true, true, true, false, false, false, false, false, false, false, false, false, false, false, false, false, false, false, false, false] rfl rfl (by kernel_rfl) (fun _ _ _ h => h) (Or.inl ⟨by rfl, ?_⟩) ?_ ?_
  rotate_left
  · intro w'
    go_simp
    with_reducible rfl
  rotate_left
  · simp only [Act.put, List.setIfInBounds_toArray, List.set_cons_zero, List.set_cons_succ, i64_w, i32_w]
    rfl
  refine Ytake_ (i := 7) (N := some 16) (v := ?_) (a' := ?_) #[true, true, true, true, true, true, true, true, false, false, false, false, false, false, false, false, false, false, false, false, false, false, false, false] rfl rfl (by kernel_rfl) (fun _ _ _ h => h) (Or.inl ⟨by rfl, ?_⟩) hHeld ?_ ?_
  rotate_left
  · rintro w' ⟨s0, s1, s2, s3⟩
    go_simp
    with_reducible rfl
  rotate_left
  · simp only [Act.put, List.setIfInBounds_toArray, List.set_cons_zero, List.set_cons_succ, i64_w, i32_w]
    rfl
  refine Ytake_ (i := 8) (N := some 17) (v := ?_) (a' := ?_) #[true, true, true, true, true, true, true, true, true, false, false, false, false, false, false, false, false, false, false, false, false, false, false, false] rfl rfl (by kernel_rfl) (fun _ _ _ h => h) (Or.inl ⟨by rfl, ?_⟩) hHeld ?_ ?_
  rotate_left
  · rintro w' ⟨s0, s1, s2, s3⟩
    go_simp
    with_reducible rfl
  rotate_left
  · simp only [Act.put, List.setIfInBounds_toArray, List.set_cons_zero, List.set_cons_succ, i64_w, i32_w]
    rfl
  refine Ypure_ (i := 9) (N := some 18) (v := ?_) (a' := ?_) #[true, true, true, true, true, true, true, true, true, true, false, false, false, false, false, false, false, false, false, false, false, false, false, false] rfl rfl (by kernel_rfl) (fun _ _ _ h => h) (Or.inl ⟨by rfl, ?_⟩) ?_ ?_
  rotate_left
  · intro w'
    go_simp
    with_reducible rfl
  rotate_left
  · simp only [Act.put, List.setIfInBounds_toArray, List.set_cons_zero, List.set_cons_succ, i64_w, i32_w]
    rfl
  refine Ypure_ (i := 10) (N := some 19) (v := ?_) (a' := ?_) #[true, true, true, true, true, true, true, true, true, true, true, false, false, false, false, false, false, false, false, false, false, false, false, false] rfl rfl (by kernel_rfl) (fun _ _ _ h => h) (Or.inl ⟨by rfl, ?_⟩) ?_ ?_
  rotate_left
  · intro w'
    go_simp
    with_reducible rfl
  rotate_left
  · simp only [Act.put, List.setIfInBounds_toArray, List.set_cons_zero, List.set_cons_succ, i64_w, i32_w]
    rfl
  refine Ytake_ (i := 11) (N := some 20) (v := ?_) (a' := ?_) #[true, true, true, true, true, true, true, true, true, true, true, true, false, false, false, false, false, false, false, false, false, false, false, false] rfl rfl (by kernel_rfl) (fun _ _ _ h => h) (Or.inl ⟨by rfl, ?_⟩) hHeld ?_ ?_
  rotate_left
  · rintro w' ⟨s0, s1, s2, s3⟩
    go_simp
    with_reducible rfl
  rotate_left
  · simp only [Act.put, List.setIfInBounds_toArray, List.set_cons_zero, List.set_cons_succ, i64_w, i32_w]
    rfl
  refine Ypure_ (i := 12) (N := some 21) (v := ?_) (a' := ?_) #[true, true, true, true, true, true, true, true, true, true, true, true, true, false, false, false, false, false, false, false, false, false, false, false] rfl rfl (by kernel_rfl) (fun _ _ _ h => h) (Or.inl ⟨by rfl, ?_⟩) ?_ ?_
  rotate_left
  · intro w'
    go_simp
    with_reducible rfl
  rotate_left
  · simp only [Act.put, List.setIfInBounds_toArray, List.set_cons_zero, List.set_cons_succ, i64_w, i32_w]
    rfl
  refine Ypure_ (i := 13) (N := some 22) (v := ?_) (a' := ?_) #[true, true, true, true, true, true, true, true, true, true, true, true, true, true, false, false, false, false, false, false, false, false, false, false] rfl rfl (by kernel_rfl) (fun _ _ _ h => h) (Or.inl ⟨by rfl, ?_⟩) ?_ ?_
  rotate_left
  · intro w'
    go_simp
    with_reducible rfl
  rotate_left
  · simp only [Act.put, List.setIfInBounds_toArray, List.set_cons_zero, List.set_cons_succ, i64_w, i32_w]
    rfl
  refine Ypure_ (i := 14) (N := some 23) (v := ?_) (a' := ?_) #[true, true, true, true, true, true, true, true, true, true, true, true, true, true, true, false, false, false, false, false, false, false, false, false] rfl rfl (by kernel_rfl) (fun _ _ _ h => h) (Or.inl ⟨by rfl, ?_⟩) ?_ ?_
  rotate_left
  · intro w'
    go_simp
    with_reducible rfl
  rotate_left
  · simp only [Act.put, List.setIfInBounds_toArray, List.set_cons_zero, List.set_cons_succ, i64_w, i32_w]
    rfl
  refine Ytake_ (i := 15) (N := some 24) (v := ?_) (a' := ?_) #[true, true, true, true, true, true, true, true, true, true, true, true, true, true, true, true, false, false, false, false, false, false, false, false] rfl rfl (by kernel_rfl) (fun _ _ _ h => h) (Or.inl ⟨by rfl, ?_⟩) hHeld ?_ ?_
  rotate_left
  · rintro w' ⟨s0, s1, s2, s3⟩
    go_simp
    with_reducible rfl
  rotate_left
  · simp only [Act.put, List.setIfInBounds_toArray, List.set_cons_zero, List.set_cons_succ, i64_w, i32_w]
    rfl
  refine Ytake_ (i := 16) (N := some 25) (v := ?_) (a' := ?_) #[true, true, true, true, true, true, true, true, true, true, true, true, true, true, true, true, true, false, false, false, false, false, false, false] rfl rfl (by kernel_rfl) (fun _ _ _ h => h) (Or.inl ⟨by rfl, ?_⟩) hHeld ?_ ?_
  rotate_left
  · rintro w' ⟨s0, s1, s2, s3⟩
    go_simp
    with_reducible rfl
  rotate_left
  · simp only [Act.put, List.setIfInBounds_toArray, List.set_cons_zero, List.set_cons_succ, i64_w, i32_w]
    rfl
  refine Ypure_ (i := 17) (N := some 26) (v := ?_) (a' := ?_) #[true, true, true, true, true, true, true, true, true, true, true, true, true, true, true, true, true, true, false, false, false, false, false, false] rfl rfl (by kernel_rfl) (fun _ _ _ h => h) (Or.inl ⟨by rfl, ?_⟩) ?_ ?_
  rotate_left
  · intro w'
    go_simp
    with_reducible rfl
  rotate_left
  · simp only [Act.put, List.setIfInBounds_toArray, List.set_cons_zero, List.set_cons_succ, i64_w, i32_w]
    rfl
  refine Ypure_ (i := 18) (N := some 27) (v := ?_) (a' := ?_) #[true, true, true, true, true, true, true, true, true, true, true, true, true, true, true, true, true, true, true, false, false, false, false, false] rfl rfl (by kernel_rfl) (fun _ _ _ h => h) (Or.inl ⟨by rfl, ?_⟩) ?_ ?_
  rotate_left
  · intro w'
    go_simp
    with_reducible rfl
  rotate_left
  · simp only [Act.put, List.setIfInBounds_toArray, List.set_cons_zero, List.set_cons_succ, i64_w, i32_w]
    rfl
  refine Ytake_ (i := 19) (N := some 28) (v := ?_) (a' := ?_) #[true, true, true, true, true, true, true, true, true, true, true, true, true, true, true, true, true, true, true, true, false, false, false, false] rfl rfl (by kernel_rfl) (fun _ _ _ h => h) (Or.inl ⟨by rfl, ?_⟩) hHeld ?_ ?_
  rotate_left
  · rintro w' ⟨s0, s1, s2, s3⟩
    go_simp
    with_reducible rfl
  rotate_left
  · simp only [Act.put, List.setIfInBounds_toArray, List.set_cons_zero, List.set_cons_succ, i64_w, i32_w]
    rfl
  refine Ytake_ (i := 20) (N := some 29) (v := ?_) (a' := ?_) #[true, true, true, true, true, true, true, true, true, true, true, true, true, true, true, true, true, true, true, true, true, false, false, false] rfl rfl (by kernel_rfl) (fun _ _ _ h => h) (Or.inl ⟨by rfl, ?_⟩) hHeld ?_ ?_
  rotate_left
  · rintro w' ⟨s0, s1, s2, s3⟩
    go_simp
    with_reducible rfl
  rotate_left
  · simp only [Act.put, List.setIfInBounds_toArray, List.set_cons_zero, List.set_cons_succ, i64_w, i32_w]
    rfl
  refine Ypure_ (i := 21) (N := some 30) (v := ?_) (a' := ?_) #[true, true, true, true, true, true, true, true, true, true, true, true, true, true, true, true, true, true, true, true, true, true, false, false] rfl rfl (by kernel_rfl) (fun _ _ _ h => h) (Or.inl ⟨by rfl, ?_⟩) ?_ ?_
  rotate_left
  · intro w'
    go_simp
    with_reducible rfl
  rotate_left
  · simp only [Act.put, List.setIfInBounds_toArray, List.set_cons_zero, List.set_cons_succ, i64_w, i32_w]
    rfl
  refine Ypure_ (i := 22) (N := some 31) (v := ?_) (a' := ?_) #[true, true, true, true, true, true, true, true, true, true, true, true, true, true, true, true, true, true, true, true, true, true, true, false] rfl rfl (by kernel_rfl) (fun _ _ _ h => h) (Or.inl ⟨by rfl, ?_⟩) ?_ ?_
  rotate_left
  · intro w'
    go_simp
    with_reducible rfl
  rotate_left
  · simp only [Act.put, List.setIfInBounds_toArray, List.set_cons_zero, List.set_cons_succ, i64_w, i32_w]
    rfl
  refine Ypure_ (i := 23) (N := some 32) (v := ?_) (a' := ?_) #[true, true, true, true, true, true, true, true, true, true, true, true, true, true, true, true, true, true, true, true, true, true, true, true] rfl rfl (by kernel_rfl) (fun _ _ _ h => h) (Or.inl ⟨by rfl, ?_⟩) ?_ ?_
  rotate_left
  · intro w'
    go_simp
    with_reducible rfl
  rotate_left
  · simp only [Act.put, List.setIfInBounds_toArray, List.set_cons_zero, List.set_cons_succ, i64_w, i32_w]
    rfl
  refine Ydone_ (by kernel_rfl) ?_
  have c0' : w0.drew.cell? ⟨N, 0, none⟩ = some (.pointer (some ⟨p, 0, none⟩)) := c0
  clear c1 c2 cp cU hb0 hb1 hb2 hb2' hb3 hb4
  gi_wp2_with (gi_at_call 32; refine (cH _).mono ?_; rintro e w' ⟨rfl, rfl⟩)
  clear cH hfH hwi c0 c0' hHeld
  obtain ⟨w1, hw1⟩ : ∃ w1, w1 = (w0.alloc (.cells #[.pointer (some ⟨p, 0, none⟩)] 23)).drew := ⟨_, rfl⟩
  rw [← hw1]
  have hz1 : w1.heap.size = N + 5 := by rw [hw1]; simp [hz0]
  have HBW := Aside0.mk (show Below w.heap.size w w1 by rw [hw1]; exact (below_alloc HBW0.out _).drew)
  have b0 : w1.heap[N]? = some (.cells #[.pointer (some ⟨p, 0, none⟩)] 23 (0, 0)) := by rw [hw1]; exact old_blk b0 _
  have b1 : w1.heap[N + 1]? = some (.cells #[.int .i64 (a : Int)] 3 (0, 0)) := by rw [hw1]; exact old_blk b1 _
  have b2 : w1.heap[N + 2]? = some (.cells #[.int .i64 (n : Int)] 3 (0, 0)) := by rw [hw1]; exact old_blk b2 _
  have b3 : w1.heap[N + 3]? = some (.cells #[.int .i64 0] 24 (0, 0)) := by rw [hw1]; exact old_blk b3 _
  have b4 : w1.heap[N + 4]? = some (.cells #[.pointer (some ⟨p, 0, none⟩)] 23 (0, 0)) := by rw [hw1, ← hz0]; exact heap_alloc_new w0 _
  have HZ := Aside0.mk hz1
  have hlt : p < N ∧ s < N := by rw [HN.out]; exact ⟨HH.out.p_lt, HH.out.s_lt⟩
  obtain ⟨hp1, hs1⟩ := hlt
  have hseq := holes_seq w1 (N + 4) p s U bs (HH.out.below HBW.out) (blk_cell b4 rfl)
  have HB0 := Aside0.mk b0
  have HB1 := Aside0.mk b1
  have HB2 := Aside0.mk b2
  have HB3 := Aside0.mk b3
  clear hw1 b0 b1 b2 b3 b4 HBW0
  clear hz0
  refine range_listA itB (xs := gaps 0 bs U) (enc := encP) rfl (enters_of Try.func49 (by kernel_rfl) rfl) hseq (Below.refl _ _) (fun b hb => ?_) (fun _ => rfl)
    (fun W' => Below (N + 5) w1 W') (fun M k W' => Below (N + 5) w1 W' ∧ NoneF (claimP a n) gs k)
    (fun c M k W' => c = .ret ∧ ∃ g : Pc, SomeF (claimP a n) gs g ∧ HasB W' p s U (ins a n bs) ∧ Fr (fun b => b = s) w W' ∧ W'.heap[N + 3]? = some (.cells #[.int .i64 0] 24 (0, 0))) ?hI0 ?hI ?hIx ?hstart ?h0 ?a1 ?assign ?body ?done ?stop
  · rcases hb with rfl | rfl | rfl <;> omega
  case hI0 =>
    rintro A B hA h1 hg
    have hg : Below w1.heap.size A B := hg
    rw [hz1] at hg
    exact h1.trans hg
  case hI =>
    rintro M k A B hA ⟨h1, h2⟩ hg
    have hg : Below w1.heap.size A B := hg
    rw [hz1] at hg
    exact ⟨h1.trans hg, h2⟩
  case hIx =>
    rintro c M k A B hA ⟨rfl, g, h1, h2, h3, h5⟩ hg
    have hg : Below w1.heap.size A B := hg
    rw [hz1] at hg
    refine ⟨rfl, g, h1, h2.same (hg.block _ (by omega)) (hg.block _ (by omega)), h3.trans (T := fun b => N + 5 ≤ b) ⟨hg.os, hg.tape, hg.output, hg.size, fun b _ hb => hg.block b (by omega)⟩ (fun b hb hl => ?_), (hg.block _ (by omega)).trans h5⟩
    rw [← HN.out] at hl; omega
  case hstart => intro M W' h1 h2 h3; exact ⟨h3, rfl⟩
  case h0 => exact Below.refl _ _
  case assign =>
    intro l' x W' K hK
    simp only [encP]
    gi_wp2
    exact hK
  case body =>
    rintro l' M k ⟨g1, g2⟩ W' hx hM hMW ⟨h1, h2⟩
    rw [← HG.out] at hx
    have hgm := gaps_mem HH.out.ok (g1, g2) (List.mem_of_getElem? (by rw [← HG.out]; exact hx))
    simp only at hgm
    have k0 := (h1.block N (by omega)).trans HB0.out
    have k1 := (h1.block (N + 1) (by omega)).trans HB1.out
    have k2 := (h1.block (N + 2) (by omega)).trans HB2.out
    have k3 := (h1.block (N + 3) (by omega)).trans HB3.out
    have HBj := Aside0.mk ((HH.out.below HBW.out).same (h1.block p (by omega)) (h1.block s (by omega)))
    have HK3 := Aside0.mk k3
    have H1 := Aside0.mk h1
    have HX := Aside0.mk hx
    have HMW := Aside0.mk hMW
    have HM := Aside0.mk hM
    have c0 := blk_cell k0 (i := 0) rfl
    have c1 := blk_cell k1 (i := 0) rfl
    have c2 := blk_cell k2 (i := 0) rfl
    have cp := HBj.out.c1
    have hwa : IntKind.i64.wrap ((a : Int) + n) = a + n := IntWalk.i64_in _ (by omega)
    have hwg : IntKind.i64.wrap ((g1 : Int) + g2) = g1 + g2 := IntWalk.i64_in _ (by omega)
    clear hseq h1 hx k0 k1 k2 k3 hM hMW hz1
    by_cases hg1 : g1 ≤ a
    · by_cases hg2 : a + n ≤ g1 + g2
      · have hd2 : (a : Int) + n ≤ (g1 : Int) + g2 := by omega
        have HFD := Aside0.mk (find_take h2 HX.out (by simp [claimP, hg1, hg2]))
        gi_wp2
        have hga := run_gap HH.out.ok (Nat.zero_le a) n hn (by omega)
        have hgm2 : ∃ g ∈ gaps 0 bs U, g.1 ≤ a ∧ a + n ≤ g.1 + g.2 := ⟨(g1, g2), List.mem_of_getElem? (by rw [← HG.out]; exact HX.out), hg1, hg2⟩
        have HLN := Aside0.mk (show longN bs a = 0 from by
          rcases Nat.eq_zero_or_pos (longN bs a) with h0 | h0
          · exact h0
          · obtain ⟨q, hq, hqa⟩ := (longN_pos HH.out.ok).1 h0
            exact absurd (hga.2 hgm2 a (Nat.le_refl _) (by omega)) (own_start HH.out.ok hq hqa))
        have HKY := Aside0.mk (key_ok (wf_nat (k := a) (by omega)))
        have HGM := Aside0.mk hgm2
        clear hga hgm2 hwa hwg hd2
        refine Ystart_ (m := 7) (S := fun w' => w'.cell? ⟨N, 0, none⟩ = some (.pointer (some ⟨p, 0, none⟩)) ∧ w'.cell? ⟨N + 1, 0, none⟩ = some (.int .i64 (a : Int)) ∧ w'.cell? ⟨N + 2, 0, none⟩ = some (.int .i64 (n : Int)) ∧ w'.cell? ⟨p, 1, none⟩ = some (.map (some s))) (ds := [6]) #[false, false, false, false, false, false, false] (by kernel_rfl) rfl rfl (fun _ => trivial) (by kernel_rfl) ⟨c0, c1, c2, cp⟩ (fun hHeld => ?_)
        refine Ytake_ (i := 0) (N := some 49) (v := ?_) (a' := ?_) #[true, false, false, false, false, false, false] rfl rfl (by kernel_rfl) (fun _ _ _ h => h) (Or.inl ⟨by rfl, ?_⟩) hHeld ?_ ?_
        rotate_left
        · rintro w' ⟨s0, s1, s2, s3⟩
          go_simp
          with_reducible rfl
        rotate_left
        · simp only [Act.put, List.setIfInBounds_toArray, List.set_cons_zero, List.set_cons_succ, i64_w, i32_w]
          rfl
        refine Ypure_ (i := 1) (N := some 50) (v := ?_) (a' := ?_) #[true, true, false, false, false, false, false] rfl rfl (by kernel_rfl) (fun _ _ _ h => h) (Or.inl ⟨by rfl, ?_⟩) ?_ ?_
        rotate_left
        · intro w'
          go_simp
          with_reducible rfl
        rotate_left
        · simp only [Act.put, List.setIfInBounds_toArray, List.set_cons_zero, List.set_cons_succ, i64_w, i32_w]
          rfl
        refine Ypure_ (i := 2) (N := some 51) (v := ?_) (a' := ?_) #[true, true, true, false, false, false, false] rfl rfl (by kernel_rfl) (fun _ _ _ h => h) (Or.inl ⟨by rfl, ?_⟩) ?_ ?_
        rotate_left
        · intro w'
          go_simp
          with_reducible rfl
        rotate_left
        · simp only [Act.put, List.setIfInBounds_toArray, List.set_cons_zero, List.set_cons_succ, i64_w, i32_w]
          rfl
        refine Ytake_ (i := 3) (N := some 52) (v := ?_) (a' := ?_) #[true, true, true, true, false, false, false] rfl rfl (by kernel_rfl) (fun _ _ _ h => h) (Or.inl ⟨by rfl, ?_⟩) hHeld ?_ ?_
        rotate_left
        · rintro w' ⟨s0, s1, s2, s3⟩
          go_simp
          with_reducible rfl
        rotate_left
        · simp only [Act.put, List.setIfInBounds_toArray, List.set_cons_zero, List.set_cons_succ, i64_w, i32_w]
          rfl
        refine Ytake_ (i := 4) (N := some 53) (v := ?_) (a' := ?_) #[true, true, true, true, true, false, false] rfl rfl (by kernel_rfl) (fun _ _ _ h => h) (Or.inl ⟨by rfl, ?_⟩) hHeld ?_ ?_
        rotate_left
        · rintro w' ⟨s0, s1, s2, s3⟩
          go_simp
          with_reducible rfl
        rotate_left
        · simp only [Act.put, List.setIfInBounds_toArray, List.set_cons_zero, List.set_cons_succ, i64_w, i32_w]
          rfl
        refine Ytake_ (i := 5) (N := some 54) (v := ?_) (a' := ?_) #[true, true, true, true, true, true, false] rfl rfl (by kernel_rfl) (fun _ _ _ h => h) (Or.inl ⟨by rfl, ?_⟩) hHeld ?_ ?_
        rotate_left
        · rintro w' ⟨s0, s1, s2, s3⟩
          go_simp
          with_reducible rfl
        rotate_left
        · simp only [Act.put, List.setIfInBounds_toArray, List.set_cons_zero, List.set_cons_succ, i64_w, i32_w]
          rfl
        refine Ylast_ (i := 6) (N := none) #[true, true, true, true, true, true, true] rfl rfl (by kernel_rfl) (by decide) (fun K hK => ?_)
        refine Yupd_ (by rfl) rfl rfl law_intB Try.underlying56 1024 (by decide) rfl (HBj.out.map.same rfl) (by obtain ⟨L, h1, h2⟩ := bk_room HBj.out.ok; exact ⟨L, by omega, h2⟩) (key := .int .i64 (a : Int)) (val := .int .i64 (n : Int)) (kl := .int .i64 (a : Int)) rfl rfl HKY.out ?_
        intro w3 hm3 ht3
        have HM3 := Aside0.mk hm3
        have HT3 := Aside0.mk ht3
        clear hm3 ht3
        refine hK.out _ _ ?_
        clear hK K
        refine Ydone_ (by kernel_rfl) ?_
        have HF3 := Aside0.mk (show Fr (fun b => b = s) W' w3 from (Fr.refl _ W').drew.trans' (HT3.out.fr rfl))
        have k3 := HF3.out.get HK3.out (by omega)
        have f3 := blk_free k3 0
        have d3 := blk_cell k3 (i := 0) rfl
        have K3 := Aside0.mk k3
        clear k3 c0 c1 c2 cp
        gi_wp2
        have HFS := Aside0.mk (show Fr (fun b => b = N + 3) w3 (w3.setCell ⟨N + 3, 0, none⟩ (.int .i64 0)) from (Fr.refl (fun b => b = N + 3) w3).setCell (.inl rfl) _)
        have hz := HZ.out
        refine ⟨KeepI.of_fr ((HF3.out.mono (T := fun b => b = s ∨ b = N + 3) (fun b h => .inl h)).trans' (HFS.out.mono (fun b h => .inr h))) (fun b hb ht hc => ?_), rfl, (g1, g2), HFD.out, ⟨?_, ?_, ?_, HBj.out.max⟩, ?_, ?_⟩
        · rcases hc with hc | hc
          · rcases ht with rfl | rfl <;> omega
          · exact hc
        · exact HFS.out.get (HF3.out.get HBj.out.ptr (fun e => HBj.out.ne e)) (by omega)
        · exact (HM3.out.fr HFS.out (by omega)).congr (updF_bk HBj.out.ok HLN.out (by omega))
        · exact chain_ins HBj.out.ok (by omega) HGM.out
        · have hn := HN.out
          refine ⟨HFS.out.os.trans (HF3.out.os.trans (H1.out.os.trans HBW.out.os)), HFS.out.tape.trans (HF3.out.tape.trans (H1.out.tape.trans HBW.out.tape)), HFS.out.output.trans (HF3.out.output.trans (H1.out.output.trans HBW.out.output)), Nat.le_trans HBW.out.size (Nat.le_trans H1.out.size (Nat.le_trans HF3.out.size HFS.out.size)), fun b hb hs => ?_⟩
          rw [← hn] at hb
          have e1 := HBW.out.block b (by omega)
          have e2 := H1.out.block b (by omega)
          have hl1 := HBW.out.size
          have hl2 := H1.out.size
          have e3 := HF3.out.block b (by omega) hs
          have e4 := HFS.out.block b (by have := HF3.out.size; omega) (by omega)
          exact e4.trans (e3.trans (e2.trans e1))
        · have h' := blk_set K3.out 0 (.int .i64 0)
          simpa using h'
      · have hd2 : ¬ ((a : Int) + n ≤ (g1 : Int) + g2) := by omega
        have HFD := Aside0.mk (find_take_none h2 HX.out (by simp [claimP]; omega))
        gi_wp2
        exact ⟨KeepI.refl _ _ _ _, H1.out, HFD.out⟩
    · have HFD := Aside0.mk (find_take_none h2 HX.out (by simp [claimP]; omega))
      gi_wp2
      exact ⟨KeepI.refl _ _ _ _, H1.out, HFD.out⟩
  case done =>
    rintro M W' hM hMW ⟨h1, h2⟩ hD
    have k3 := (h1.block (N + 3) (by omega)).trans HB3.out
    have f3 := blk_free k3 0
    have d3 := blk_cell k3 (i := 0) rfl
    have HBj := Aside0.mk ((HH.out.below HBW.out).same (h1.block p (by omega)) (h1.block s (by omega)))
    have HFD := Aside0.mk (show gs.find? (claimP a n) = none by have : (gs.take (gaps 0 bs U).length).find? (claimP a n) = none := h2; rwa [← HG.out, List.take_length] at this)
    have K3 := Aside0.mk k3
    have H1 := Aside0.mk h1
    have HD := Aside0.mk hD
    clear hseq h1 h2 k3 hM hMW hD
    gi_wp2
    obtain ⟨V, hV⟩ : ∃ V, V = W'.setCell ⟨N + 3, 0, none⟩ (.int .i64 100) := ⟨_, rfl⟩
    rw [← hV]
    have HFS := Aside0.mk (show Fr (fun b => b = N + 3) W' V from by rw [hV]; exact (Fr.refl (fun b => b = N + 3) W').setCell (.inl rfl) _)
    have v3 : V.heap[N + 3]? = some (.cells #[.int .i64 100] 24 (0, 0)) := by
      have h' := blk_set K3.out 0 (.int .i64 100)
      rw [hV]
      simpa using h'
    have hz := HZ.out
    have HDV := Aside0.mk (HFS.out.get HD.out (by omega))
    refine ⟨by simp, .inl ⟨_, _, rfl, run_takeDeferred HDV.out, ?_⟩⟩
    refine ⟨_, results_c1 rfl _ _ (N + 3) _ rfl ((World.putObj_heap_other (by omega)).trans v3) Try.underlying24 rfl, ?_⟩
    rw [HPO.out, ClaimOut, ← HG.out, HFD.out]
    refine ⟨rfl, HBj.out.same ?_ ?_, ?_⟩
    · exact (World.putObj_heap_other (by omega)).trans (HFS.out.block p HBj.out.p_lt (by omega))
    · exact (World.putObj_heap_other (by omega)).trans (HFS.out.block s HBj.out.s_lt (by omega))
    · have hn := HN.out
      refine ⟨HFS.out.os.trans (H1.out.os.trans HBW.out.os), HFS.out.tape.trans (H1.out.tape.trans HBW.out.tape), HFS.out.output.trans (H1.out.output.trans HBW.out.output), ?_, fun b hb hs => ?_⟩
      · have h1 := HBW.out.size; have h2 := H1.out.size; have h3 := HFS.out.size; simp; omega
      · rw [← hn] at hb
        have hl1 := HBW.out.size
        have hl2 := H1.out.size
        exact (World.putObj_heap_other (by omega)).trans ((HFS.out.block b (by omega) (by omega)).trans ((H1.out.block b (by omega)).trans (HBW.out.block b (by omega))))
  case stop =>
    rintro c M k W' hk hM hMW ⟨rfl, g, h1, h2, h3, h5⟩ hD
    have HD := Aside0.mk hD
    have HFD := Aside0.mk h1
    have HB := Aside0.mk h2
    have H3 := Aside0.mk h3
    have H5 := Aside0.mk h5
    clear hseq h1 h2 h3 h5 hD hM hMW hk
    gi_wp2
    have hz := HZ.out
    refine ⟨by simp, .inl ⟨_, _, rfl, run_takeDeferred HD.out, ?_⟩⟩
    refine ⟨_, results_c1 rfl _ _ (N + 3) _ rfl ((World.putObj_heap_other (by omega)).trans H5.out) Try.underlying24 rfl, ?_⟩
    have hfd : gs.find? (claimP a n) = some g := HFD.out
    rw [HPO.out, ClaimOut, ← HG.out, hfd]
    have hn := HN.out
    refine ⟨rfl, HB.out.same (World.putObj_heap_other (by omega)) (World.putObj_heap_other (by omega)), H3.out.os, H3.out.tape, H3.out.output, ?_, fun b hb hs => ?_⟩
    · have := H3.out.size; simpa using this
    · exact (World.putObj_heap_other (by omega)).trans (H3.out.block b hb hs)
set_option maxRecDepth 100000 in
set_option maxHeartbeats 4000000 in
theorem claim_b1 (w : World) (p s U : Nat) (bs : List Pc) (h : HasB w p s U bs) (a n : Int) (hn : n < 1) : Calls Try.prog 22 #[.pointer (some ⟨p, 0, none⟩), .int .i64 a, .int .i64 n] w fun e w' => e = .returned (.int .i64 1) ∧ Below w.heap.size w w' := by
  have cU := h.c0
  have hmU := h.max
  obtain ⟨Po, hPo⟩ : ∃ Po, Po = fun (e : Ending) w' => e = .returned (.int .i64 1) ∧ Below w.heap.size w w' := ⟨_, rfl⟩
  have HPO := Aside0.mk hPo
  rw [← hPo]
  clear h hPo
  refine (callsIn_wide (n := 15)).1 ?_
  refine callsIn_of_wp Try.func22 rfl trivial ?_ rfl
  simp only [Try.ntmps22, List.size_toArray, List.length_cons, List.length_nil, Nat.reduceAdd, Nat.reduceSub, Array.replicate_succ, Array.replicate_zero, List.push_toArray, List.append_toArray, List.nil_append, List.cons_append]
  gi_wp2
  obtain ⟨w0, hw0⟩ : ∃ w0, w0 = ((((w.alloc (.cells #[.pointer (some ⟨p, 0, none⟩)] 23)).alloc (.cells #[.int .i64 a] 3)).alloc (.cells #[.int .i64 n] 3)).alloc (.cells #[.int .i64 0] 24)) := ⟨_, rfl⟩
  rw [← hw0]
  obtain ⟨N, hN⟩ : ∃ N, N = w.heap.size := ⟨_, rfl⟩
  have HN := Aside0.mk hN
  have HBW0 := Aside0.mk (show Below w.heap.size w w0 by rw [hw0]; exact below_alloc (below_alloc (below_alloc (below_alloc (Below.refl _ _) _) _) _) _)
  have b0 : w0.heap[N]? = some (.cells #[.pointer (some ⟨p, 0, none⟩)] 23 (0, 0)) := by rw [hw0, hN]; exact old_blk (old_blk (old_blk (heap_alloc_new w _) _) _) _
  have b1 : w0.heap[N + 1]? = some (.cells #[.int .i64 a] 3 (0, 0)) := by rw [hw0, hN]; exact old_blk (old_blk (alloc_two w _ _) _) _
  have b2 : w0.heap[N + 2]? = some (.cells #[.int .i64 n] 3 (0, 0)) := by rw [hw0, hN]; exact old_blk (alloc_three w _ _ _) _
  have b3 : w0.heap[N + 3]? = some (.cells #[.int .i64 0] 24 (0, 0)) := by
    rw [hw0, hN]
    have := alloc_two ((w.alloc (.cells #[.pointer (some ⟨p, 0, none⟩)] 23)).alloc (.cells #[.int .i64 a] 3)) (.cells #[.int .i64 n] 3) (.cells #[.int .i64 0] 24)
    simpa using this
  have B3 := Aside0.mk b3
  have c0 := blk_cell b0 (i := 0) rfl
  have c1 := blk_cell b1 (i := 0) rfl
  have c2 := blk_cell b2 (i := 0) rfl
  have c3 : w0.drew.cell? ⟨N + 3, 0, none⟩ = some (.int .i64 0) := blk_cell b3 (i := 0) rfl
  have f3 : w0.drew.frozen? ⟨N + 3, 0, none⟩ = false := blk_free b3 0
  have cp := bel_cellB HBW0.out cU
  have hb0 : decide (n < 1) = true := by simp; omega
  clear hw0 b0 b1 b2 b3 cU
  rw [← hN]
  clear hN
  refine Ystart_ (m := 24) (S := fun w' => w'.cell? ⟨N, 0, none⟩ = some (.pointer (some ⟨p, 0, none⟩)) ∧ w'.cell? ⟨N + 1, 0, none⟩ = some (.int .i64 a) ∧ w'.cell? ⟨N + 2, 0, none⟩ = some (.int .i64 n) ∧ w'.cell? ⟨p, 0, none⟩ = some (.int .i64 (U : Int))) (ds := []) #[false, false, false, false, false, false, false, false, false, false, false, false, false, false, false, false, false, false, false, false, false, false, false, false] (by kernel_rfl) rfl rfl (fun _ => trivial) (by kernel_rfl) ⟨c0, c1, c2, cp⟩ (fun hHeld => ?_)
  refine Ytake_ (i := 0) (N := some 9) (v := ?_) (a' := ?_) #[true, false, false, false, false, false, false, false, false, false, false, false, false, false, false, false, false, false, false, false, false, false, false, false] rfl rfl (by kernel_rfl) (fun _ _ _ h => h) (Or.inl ⟨by rfl, ?_⟩) hHeld ?_ ?_
  rotate_left
  · rintro w' ⟨s0, s1, s2, s3⟩
    go_simp
    with_reducible rfl
  rotate_left
  · simp only [Act.put, List.setIfInBounds_toArray, List.set_cons_zero, List.set_cons_succ, i64_w, i32_w]
    rfl
  refine Ypure_ (i := 1) (N := some 10) (v := ?_) (a' := ?_) #[true, true, false, false, false, false, false, false, false, false, false, false, false, false, false, false, false, false, false, false, false, false, false, false] rfl rfl (by kernel_rfl) (fun _ _ _ h => h) (Or.inl ⟨by rfl, ?_⟩) ?_ ?_
  rotate_left
  · intro w'
    go_simp
    with_reducible rfl
  rotate_left
  · simp only [Act.put, List.setIfInBounds_toArray, List.set_cons_zero, List.set_cons_succ, i64_w, i32_w]
    rfl
  refine Ypure_ (i := 2) (N := some 11) (v := ?_) (a' := ?_) #[true, true, true, false, false, false, false, false, false, false, false, false, false, false, false, false, false, false, false, false, false, false, false, false] rfl rfl (by kernel_rfl) (fun _ _ _ h => h) (Or.inl ⟨by rfl, ?_⟩) ?_ ?_
  rotate_left
  · intro w'
    go_simp
    with_reducible rfl
  rotate_left
  · simp only [Act.put, List.setIfInBounds_toArray, List.set_cons_zero, List.set_cons_succ, i64_w, i32_w]
    rfl
  refine Ypure_ (i := 3) (N := some 12) (v := undef) (a' := ?_) #[true, true, true, true, false, false, false, false, false, false, false, false, false, false, false, false, false, false, false, false, false, false, false, false] rfl rfl (by kernel_rfl) (fun _ _ _ h => h) (Or.inr ⟨by rfl, rfl⟩) ?_ ?_
  rotate_left
  · simp only [Act.put, List.setIfInBounds_toArray, List.set_cons_zero, List.set_cons_succ, i64_w, i32_w]
    rfl
  refine Ypure_ (i := 4) (N := some 13) (v := undef) (a' := ?_) #[true, true, true, true, true, false, false, false, false, false, false, false, false, false, false, false, false, false, false, false, false, false, false, false] rfl rfl (by kernel_rfl) (fun _ _ _ h => h) (Or.inr ⟨by rfl, rfl⟩) ?_ ?_
  rotate_left
  · simp only [Act.put, List.setIfInBounds_toArray, List.set_cons_zero, List.set_cons_succ, i64_w, i32_w]
    rfl
  refine Ypure_ (i := 5) (N := some 14) (v := ?_) (a' := ?_) #[true, true, true, true, true, true, false, false, false, false, false, false, false, false, false, false, false, false, false, false, false, false, false, false] rfl rfl (by kernel_rfl) (fun _ _ _ h => h) (Or.inl ⟨by rfl, ?_⟩) ?_ ?_
  rotate_left
  · intro w'
    go_simp
    with_reducible rfl
  rotate_left
  · simp only [Act.put, List.setIfInBounds_toArray, List.set_cons_zero, List.set_cons_succ, i64_w, i32_w]
    rfl
  refine Ypure_ (i := 6) (N := some 15) (v := ?_) (a' := ?_) #[true, true, true, true, true, true, true, false, false, false, false, false, false, false, false, false, false, false, false, false, false, false, false, false] rfl rfl (by kernel_rfl) (fun _ _ _ h => h) (Or.inl ⟨by rfl, ?_⟩) ?_ ?_
  rotate_left
  · intro w'
    go_simp
    with_reducible rfl
  rotate_left
  · simp only [Act.put, List.setIfInBounds_toArray, List.set_cons_zero, List.set_cons_succ, i64_w, i32_w]
    rfl
  refine Ypure_ (i := 7) (N := some 16) (v := undef) (a' := ?_) #[true, true, true, true, true, true, true, true, false, false, false, false, false, false, false, false, false, false, false, false, false, false, false, false] rfl rfl (by kernel_rfl) (fun _ _ _ h => h) (Or.inr ⟨by rfl, rfl⟩) ?_ ?_
  rotate_left
  · simp only [Act.put, List.setIfInBounds_toArray, List.set_cons_zero, List.set_cons_succ, i64_w, i32_w]
    rfl
  refine Ypure_ (i := 8) (N := some 17) (v := undef) (a' := ?_) #[true, true, true, true, true, true, true, true, true, false, false, false, false, false, false, false, false, false, false, false, false, false, false, false] rfl rfl (by kernel_rfl) (fun _ _ _ h => h) (Or.inr ⟨by rfl, rfl⟩) ?_ ?_
  rotate_left
  · simp only [Act.put, List.setIfInBounds_toArray, List.set_cons_zero, List.set_cons_succ, i64_w, i32_w]
    rfl
  refine Ypure_ (i := 9) (N := some 18) (v := undef) (a' := ?_) #[true, true, true, true, true, true, true, true, true, true, false, false, false, false, false, false, false, false, false, false, false, false, false, false] rfl rfl (by kernel_rfl) (fun _ _ _ h => h) (Or.inr ⟨by rfl, rfl⟩) ?_ ?_
  rotate_left
  · simp only [Act.put, List.setIfInBounds_toArray, List.set_cons_zero, List.set_cons_succ, i64_w, i32_w]
    rfl
  refine Ypure_ (i := 10) (N := some 19) (v := undef) (a' := ?_) #[true, true, true, true, true, true, true, true, true, true, true, false, false, false, false, false, false, false, false, false, false, false, false, false] rfl rfl (by kernel_rfl) (fun _ _ _ h => h) (Or.inr ⟨by rfl, rfl⟩) ?_ ?_
  rotate_left
  · simp only [Act.put, List.setIfInBounds_toArray, List.set_cons_zero, List.set_cons_succ, i64_w, i32_w]
    rfl
  refine Ypure_ (i := 11) (N := some 20) (v := undef) (a' := ?_) #[true, true, true, true, true, true, true, true, true, true, true, true, false, false, false, false, false, false, false, false, false, false, false, false] rfl rfl (by kernel_rfl) (fun _ _ _ h => h) (Or.inr ⟨by rfl, rfl⟩) ?_ ?_
  rotate_left
  · simp only [Act.put, List.setIfInBounds_toArray, List.set_cons_zero, List.set_cons_succ, i64_w, i32_w]
    rfl
  refine Ypure_ (i := 12) (N := some 21) (v := undef) (a' := ?_) #[true, true, true, true, true, true, true, true, true, true, true, true, true, false, false, false, false, false, false, false, false, false, false, false] rfl rfl (by kernel_rfl) (fun _ _ _ h => h) (Or.inr ⟨by rfl, rfl⟩) ?_ ?_
  rotate_left
  · simp only [Act.put, List.setIfInBounds_toArray, List.set_cons_zero, List.set_cons_succ, i64_w, i32_w]
    rfl
  refine Ypure_ (i := 13) (N := some 22) (v := ?_) (a' := ?_) #[true, true, true, true, true, true, true, true, true, true, true, true, true, true, false, false, false, false, false, false, false, false, false, false] rfl rfl (by kernel_rfl) (fun _ _ _ h => h) (Or.inl ⟨by rfl, ?_⟩) ?_ ?_
  rotate_left
  · intro w'
    go_simp
    with_reducible rfl
  rotate_left
  · simp only [Act.put, List.setIfInBounds_toArray, List.set_cons_zero, List.set_cons_succ, i64_w, i32_w]
    rfl
  refine Ypure_ (i := 14) (N := some 23) (v := ?_) (a' := ?_) #[true, true, true, true, true, true, true, true, true, true, true, true, true, true, true, false, false, false, false, false, false, false, false, false] rfl rfl (by kernel_rfl) (fun _ _ _ h => h) (Or.inl ⟨by rfl, ?_⟩) ?_ ?_
  rotate_left
  · intro w'
    go_simp
    with_reducible rfl
  rotate_left
  · simp only [Act.put, List.setIfInBounds_toArray, List.set_cons_zero, List.set_cons_succ, i64_w, i32_w]
    rfl
  refine Ypure_ (i := 15) (N := some 24) (v := undef) (a' := ?_) #[true, true, true, true, true, true, true, true, true, true, true, true, true, true, true, true, false, false, false, false, false, false, false, false] rfl rfl (by kernel_rfl) (fun _ _ _ h => h) (Or.inr ⟨by rfl, rfl⟩) ?_ ?_
  rotate_left
  · simp only [Act.put, List.setIfInBounds_toArray, List.set_cons_zero, List.set_cons_succ, i64_w, i32_w]
    rfl
  refine Ypure_ (i := 16) (N := some 25) (v := undef) (a' := ?_) #[true, true, true, true, true, true, true, true, true, true, true, true, true, true, true, true, true, false, false, false, false, false, false, false] rfl rfl (by kernel_rfl) (fun _ _ _ h => h) (Or.inr ⟨by rfl, rfl⟩) ?_ ?_
  rotate_left
  · simp only [Act.put, List.setIfInBounds_toArray, List.set_cons_zero, List.set_cons_succ, i64_w, i32_w]
    rfl
  refine Ypure_ (i := 17) (N := some 26) (v := undef) (a' := ?_) #[true, true, true, true, true, true, true, true, true, true, true, true, true, true, true, true, true, true, false, false, false, false, false, false] rfl rfl (by kernel_rfl) (fun _ _ _ h => h) (Or.inr ⟨by rfl, rfl⟩) ?_ ?_
  rotate_left
  · simp only [Act.put, List.setIfInBounds_toArray, List.set_cons_zero, List.set_cons_succ, i64_w, i32_w]
    rfl
  refine Ypure_ (i := 18) (N := some 27) (v := undef) (a' := ?_) #[true, true, true, true, true, true, true, true, true, true, true, true, true, true, true, true, true, true, true, false, false, false, false, false] rfl rfl (by kernel_rfl) (fun _ _ _ h => h) (Or.inr ⟨by rfl, rfl⟩) ?_ ?_
  rotate_left
  · simp only [Act.put, List.setIfInBounds_toArray, List.set_cons_zero, List.set_cons_succ, i64_w, i32_w]
    rfl
  refine Ypure_ (i := 19) (N := some 28) (v := undef) (a' := ?_) #[true, true, true, true, true, true, true, true, true, true, true, true, true, true, true, true, true, true, true, true, false, false, false, false] rfl rfl (by kernel_rfl) (fun _ _ _ h => h) (Or.inr ⟨by rfl, rfl⟩) ?_ ?_
  rotate_left
  · simp only [Act.put, List.setIfInBounds_toArray, List.set_cons_zero, List.set_cons_succ, i64_w, i32_w]
    rfl
  refine Ypure_ (i := 20) (N := some 29) (v := undef) (a' := ?_) #[true, true, true, true, true, true, true, true, true, true, true, true, true, true, true, true, true, true, true, true, true, false, false, false] rfl rfl (by kernel_rfl) (fun _ _ _ h => h) (Or.inr ⟨by rfl, rfl⟩) ?_ ?_
  rotate_left
  · simp only [Act.put, List.setIfInBounds_toArray, List.set_cons_zero, List.set_cons_succ, i64_w, i32_w]
    rfl
  refine Ypure_ (i := 21) (N := some 30) (v := undef) (a' := ?_) #[true, true, true, true, true, true, true, true, true, true, true, true, true, true, true, true, true, true, true, true, true, true, false, false] rfl rfl (by kernel_rfl) (fun _ _ _ h => h) (Or.inr ⟨by rfl, rfl⟩) ?_ ?_
  rotate_left
  · simp only [Act.put, List.setIfInBounds_toArray, List.set_cons_zero, List.set_cons_succ, i64_w, i32_w]
    rfl
  refine Ypure_ (i := 22) (N := some 31) (v := undef) (a' := ?_) #[true, true, true, true, true, true, true, true, true, true, true, true, true, true, true, true, true, true, true, true, true, true, true, false] rfl rfl (by kernel_rfl) (fun _ _ _ h => h) (Or.inr ⟨by rfl, rfl⟩) ?_ ?_
  rotate_left
  · simp only [Act.put, List.setIfInBounds_toArray, List.set_cons_zero, List.set_cons_succ, i64_w, i32_w]
    rfl
  refine Ypure_ (i := 23) (N := some 32) (v := ?_) (a' := ?_) #[true, true, true, true, true, true, true, true, true, true, true, true, true, true, true, true, true, true, true, true, true, true, true, true] rfl rfl (by kernel_rfl) (fun _ _ _ h => h) (Or.inl ⟨by rfl, ?_⟩) ?_ ?_
  rotate_left
  · intro w'
    go_simp
    with_reducible rfl
  rotate_left
  · simp only [Act.put, List.setIfInBounds_toArray, List.set_cons_zero, List.set_cons_succ, i64_w, i32_w]
    rfl
  refine Ydone_ (by kernel_rfl) ?_
  gi_wp2
  have hn := HN.out
  refine bodyPost_ret (results_c1 rfl _ _ (N + 3) (v := .int .i64 1) (t := 24) (fr := (0, 0)) _ rfl ?_ Try.underlying24 rfl) rfl ?_
  · have h' : (w0.setCell ⟨N + 3, 0, none⟩ (.int .i64 1)).heap[N + 3]? = some (.cells #[.int .i64 1] 24 (0, 0)) := by
      have := blk_set B3.out 0 (.int .i64 1)
      simpa using this
    exact h'
  · rw [HPO.out]
    exact ⟨rfl, HBW0.out.drew.setCell (p := ⟨N + 3, 0, none⟩) (by rw [hn]; simp only; omega) _⟩
set_option maxRecDepth 100000 in
set_option maxHeartbeats 4000000 in
theorem claim_b2 (w : World) (p s U : Nat) (bs : List Pc) (h : HasB w p s U bs) (a n : Int) (hn : ¬ n < 1) (ha : a < 0) : Calls Try.prog 22 #[.pointer (some ⟨p, 0, none⟩), .int .i64 a, .int .i64 n] w fun e w' => e = .returned (.int .i64 1) ∧ Below w.heap.size w w' := by
  have cU := h.c0
  have hmU := h.max
  obtain ⟨Po, hPo⟩ : ∃ Po, Po = fun (e : Ending) w' => e = .returned (.int .i64 1) ∧ Below w.heap.size w w' := ⟨_, rfl⟩
  have HPO := Aside0.mk hPo
  rw [← hPo]
  clear h hPo
  refine (callsIn_wide (n := 15)).1 ?_
  refine callsIn_of_wp Try.func22 rfl trivial ?_ rfl
  simp only [Try.ntmps22, List.size_toArray, List.length_cons, List.length_nil, Nat.reduceAdd, Nat.reduceSub, Array.replicate_succ, Array.replicate_zero, List.push_toArray, List.append_toArray, List.nil_append, List.cons_append]
  gi_wp2
  obtain ⟨w0, hw0⟩ : ∃ w0, w0 = ((((w.alloc (.cells #[.pointer (some ⟨p, 0, none⟩)] 23)).alloc (.cells #[.int .i64 a] 3)).alloc (.cells #[.int .i64 n] 3)).alloc (.cells #[.int .i64 0] 24)) := ⟨_, rfl⟩
  rw [← hw0]
  obtain ⟨N, hN⟩ : ∃ N, N = w.heap.size := ⟨_, rfl⟩
  have HN := Aside0.mk hN
  have HBW0 := Aside0.mk (show Below w.heap.size w w0 by rw [hw0]; exact below_alloc (below_alloc (below_alloc (below_alloc (Below.refl _ _) _) _) _) _)
  have b0 : w0.heap[N]? = some (.cells #[.pointer (some ⟨p, 0, none⟩)] 23 (0, 0)) := by rw [hw0, hN]; exact old_blk (old_blk (old_blk (heap_alloc_new w _) _) _) _
  have b1 : w0.heap[N + 1]? = some (.cells #[.int .i64 a] 3 (0, 0)) := by rw [hw0, hN]; exact old_blk (old_blk (alloc_two w _ _) _) _
  have b2 : w0.heap[N + 2]? = some (.cells #[.int .i64 n] 3 (0, 0)) := by rw [hw0, hN]; exact old_blk (alloc_three w _ _ _) _
  have b3 : w0.heap[N + 3]? = some (.cells #[.int .i64 0] 24 (0, 0)) := by
    rw [hw0, hN]
    have := alloc_two ((w.alloc (.cells #[.pointer (some ⟨p, 0, none⟩)] 23)).alloc (.cells #[.int .i64 a] 3)) (.cells #[.int .i64 n] 3) (.cells #[.int .i64 0] 24)
    simpa using this
  have B3 := Aside0.mk b3
  have c0 := blk_cell b0 (i := 0) rfl
  have c1 := blk_cell b1 (i := 0) rfl
  have c2 := blk_cell b2 (i := 0) rfl
  have c3 : w0.drew.cell? ⟨N + 3, 0, none⟩ = some (.int .i64 0) := blk_cell b3 (i := 0) rfl
  have f3 : w0.drew.frozen? ⟨N + 3, 0, none⟩ = false := blk_free b3 0
  have cp := bel_cellB HBW0.out cU
  have hb0 : decide (n < 1) = false := by simp; omega
  have hb1 : decide (a < 0) = true := by simp; omega
  clear hw0 b0 b1 b2 b3 cU
  rw [← hN]
  clear hN
  refine Ystart_ (m := 24) (S := fun w' => w'.cell? ⟨N, 0, none⟩ = some (.pointer (some ⟨p, 0, none⟩)) ∧ w'.cell? ⟨N + 1, 0, none⟩ = some (.int .i64 a) ∧ w'.cell? ⟨N + 2, 0, none⟩ = some (.int .i64 n) ∧ w'.cell? ⟨p, 0, none⟩ = some (.int .i64 (U : Int))) (ds := []) #[false, false, false, false, false, false, false, false, false, false, false, false, false, false, false, false, false, false, false, false, false, false, false, false] (by kernel_rfl) rfl rfl (fun _ => trivial) (by kernel_rfl) ⟨c0, c1, c2, cp⟩ (fun hHeld => ?_)
  refine Ytake_ (i := 0) (N := some 9) (v := ?_) (a' := ?_) #[true, false, false, false, false, false, false, false, false, false, false, false, false, false, false, false, false, false, false, false, false, false, false, false] rfl rfl (by kernel_rfl) (fun _ _ _ h => h) (Or.inl ⟨by rfl, ?_⟩) hHeld ?_ ?_
  rotate_left
  · rintro w' ⟨s0, s1, s2, s3⟩
    go_simp
    with_reducible rfl
  rotate_left
  · simp only [Act.put, List.setIfInBounds_toArray, List.set_cons_zero, List.set_cons_succ, i64_w, i32_w]
    rfl
  refine Ypure_ (i := 1) (N := some 10) (v := ?_) (a' := ?_) #[true, true, false, false, false, false, false, false, false, false, false, false, false, false, false, false, false, false, false, false, false, false, false, false] rfl rfl (by kernel_rfl) (fun _ _ _ h => h) (Or.inl ⟨by rfl, ?_⟩) ?_ ?_
  rotate_left
  · intro w'
    go_simp
    with_reducible rfl
  rotate_left
  · simp only [Act.put, List.setIfInBounds_toArray, List.set_cons_zero, List.set_cons_succ, i64_w, i32_w]
    rfl
  refine Ypure_ (i := 2) (N := some 11) (v := ?_) (a' := ?_) #[true, true, true, false, false, false, false, false, false, false, false, false, false, false, false, false, false, false, false, false, false, false, false, false] rfl rfl (by kernel_rfl) (fun _ _ _ h => h) (Or.inl ⟨by rfl, ?_⟩) ?_ ?_
  rotate_left
  · intro w'
    go_simp
    with_reducible rfl
  rotate_left
  · simp only [Act.put, List.setIfInBounds_toArray, List.set_cons_zero, List.set_cons_succ, i64_w, i32_w]
    rfl
  refine Ytake_ (i := 3) (N := some 12) (v := ?_) (a' := ?_) #[true, true, true, true, false, false, false, false, false, false, false, false, false, false, false, false, false, false, false, false, false, false, false, false] rfl rfl (by kernel_rfl) (fun _ _ _ h => h) (Or.inl ⟨by rfl, ?_⟩) hHeld ?_ ?_
  rotate_left
  · rintro w' ⟨s0, s1, s2, s3⟩
    go_simp
    with_reducible rfl
  rotate_left
  · simp only [Act.put, List.setIfInBounds_toArray, List.set_cons_zero, List.set_cons_succ, i64_w, i32_w]
    rfl
  refine Ypure_ (i := 4) (N := some 13) (v := ?_) (a' := ?_) #[true, true, true, true, true, false, false, false, false, false, false, false, false, false, false, false, false, false, false, false, false, false, false, false] rfl rfl (by kernel_rfl) (fun _ _ _ h => h) (Or.inl ⟨by rfl, ?_⟩) ?_ ?_
  rotate_left
  · intro w'
    go_simp
    with_reducible rfl
  rotate_left
  · simp only [Act.put, List.setIfInBounds_toArray, List.set_cons_zero, List.set_cons_succ, i64_w, i32_w]
    rfl
  refine Ypure_ (i := 5) (N := some 14) (v := ?_) (a' := ?_) #[true, true, true, true, true, true, false, false, false, false, false, false, false, false, false, false, false, false, false, false, false, false, false, false] rfl rfl (by kernel_rfl) (fun _ _ _ h => h) (Or.inl ⟨by rfl, ?_⟩) ?_ ?_
  rotate_left
  · intro w'
    go_simp
    with_reducible rfl
  rotate_left
  · simp only [Act.put, List.setIfInBounds_toArray, List.set_cons_zero, List.set_cons_succ, i64_w, i32_w]
    rfl
  refine Ypure_ (i := 6) (N := some 15) (v := ?_) (a' := ?_) #[true, true, true, true, true, true, true, false, false, false, false, false, false, false, false, false, false, false, false, false, false, false, false, false] rfl rfl (by kernel_rfl) (fun _ _ _ h => h) (Or.inl ⟨by rfl, ?_⟩) ?_ ?_
  rotate_left
  · intro w'
    go_simp
    with_reducible rfl
  rotate_left
  · simp only [Act.put, List.setIfInBounds_toArray, List.set_cons_zero, List.set_cons_succ, i64_w, i32_w]
    rfl
  refine Ypure_ (i := 7) (N := some 16) (v := undef) (a' := ?_) #[true, true, true, true, true, true, true, true, false, false, false, false, false, false, false, false, false, false, false, false, false, false, false, false] rfl rfl (by kernel_rfl) (fun _ _ _ h => h) (Or.inr ⟨by rfl, rfl⟩) ?_ ?_
  rotate_left
  · simp only [Act.put, List.setIfInBounds_toArray, List.set_cons_zero, List.set_cons_succ, i64_w, i32_w]
    rfl
  refine Ypure_ (i := 8) (N := some 17) (v := undef) (a' := ?_) #[true, true, true, true, true, true, true, true, true, false, false, false, false, false, false, false, false, false, false, false, false, false, false, false] rfl rfl (by kernel_rfl) (fun _ _ _ h => h) (Or.inr ⟨by rfl, rfl⟩) ?_ ?_
  rotate_left
  · simp only [Act.put, List.setIfInBounds_toArray, List.set_cons_zero, List.set_cons_succ, i64_w, i32_w]
    rfl
  refine Ypure_ (i := 9) (N := some 18) (v := undef) (a' := ?_) #[true, true, true, true, true, true, true, true, true, true, false, false, false, false, false, false, false, false, false, false, false, false, false, false] rfl rfl (by kernel_rfl) (fun _ _ _ h => h) (Or.inr ⟨by rfl, rfl⟩) ?_ ?_
  rotate_left
  · simp only [Act.put, List.setIfInBounds_toArray, List.set_cons_zero, List.set_cons_succ, i64_w, i32_w]
    rfl
  refine Ypure_ (i := 10) (N := some 19) (v := undef) (a' := ?_) #[true, true, true, true, true, true, true, true, true, true, true, false, false, false, false, false, false, false, false, false, false, false, false, false] rfl rfl (by kernel_rfl) (fun _ _ _ h => h) (Or.inr ⟨by rfl, rfl⟩) ?_ ?_
  rotate_left
  · simp only [Act.put, List.setIfInBounds_toArray, List.set_cons_zero, List.set_cons_succ, i64_w, i32_w]
    rfl
  refine Ypure_ (i := 11) (N := some 20) (v := undef) (a' := ?_) #[true, true, true, true, true, true, true, true, true, true, true, true, false, false, false, false, false, false, false, false, false, false, false, false] rfl rfl (by kernel_rfl) (fun _ _ _ h => h) (Or.inr ⟨by rfl, rfl⟩) ?_ ?_
  rotate_left
  · simp only [Act.put, List.setIfInBounds_toArray, List.set_cons_zero, List.set_cons_succ, i64_w, i32_w]
    rfl
  refine Ypure_ (i := 12) (N := some 21) (v := undef) (a' := ?_) #[true, true, true, true, true, true, true, true, true, true, true, true, true, false, false, false, false, false, false, false, false, false, false, false] rfl rfl (by kernel_rfl) (fun _ _ _ h => h) (Or.inr ⟨by rfl, rfl⟩) ?_ ?_
  rotate_left
  · simp only [Act.put, List.setIfInBounds_toArray, List.set_cons_zero, List.set_cons_succ, i64_w, i32_w]
    rfl
  refine Ypure_ (i := 13) (N := some 22) (v := ?_) (a' := ?_) #[true, true, true, true, true, true, true, true, true, true, true, true, true, true, false, false, false, false, false, false, false, false, false, false] rfl rfl (by kernel_rfl) (fun _ _ _ h => h) (Or.inl ⟨by rfl, ?_⟩) ?_ ?_
  rotate_left
  · intro w'
    go_simp
    with_reducible rfl
  rotate_left
  · simp only [Act.put, List.setIfInBounds_toArray, List.set_cons_zero, List.set_cons_succ, i64_w, i32_w]
    rfl
  refine Ypure_ (i := 14) (N := some 23) (v := ?_) (a' := ?_) #[true, true, true, true, true, true, true, true, true, true, true, true, true, true, true, false, false, false, false, false, false, false, false, false] rfl rfl (by kernel_rfl) (fun _ _ _ h => h) (Or.inl ⟨by rfl, ?_⟩) ?_ ?_
  rotate_left
  · intro w'
    go_simp
    with_reducible rfl
  rotate_left
  · simp only [Act.put, List.setIfInBounds_toArray, List.set_cons_zero, List.set_cons_succ, i64_w, i32_w]
    rfl
  refine Ypure_ (i := 15) (N := some 24) (v := undef) (a' := ?_) #[true, true, true, true, true, true, true, true, true, true, true, true, true, true, true, true, false, false, false, false, false, false, false, false] rfl rfl (by kernel_rfl) (fun _ _ _ h => h) (Or.inr ⟨by rfl, rfl⟩) ?_ ?_
  rotate_left
  · simp only [Act.put, List.setIfInBounds_toArray, List.set_cons_zero, List.set_cons_succ, i64_w, i32_w]
    rfl
  refine Ypure_ (i := 16) (N := some 25) (v := undef) (a' := ?_) #[true, true, true, true, true, true, true, true, true, true, true, true, true, true, true, true, true, false, false, false, false, false, false, false] rfl rfl (by kernel_rfl) (fun _ _ _ h => h) (Or.inr ⟨by rfl, rfl⟩) ?_ ?_
  rotate_left
  · simp only [Act.put, List.setIfInBounds_toArray, List.set_cons_zero, List.set_cons_succ, i64_w, i32_w]
    rfl
  refine Ypure_ (i := 17) (N := some 26) (v := undef) (a' := ?_) #[true, true, true, true, true, true, true, true, true, true, true, true, true, true, true, true, true, true, false, false, false, false, false, false] rfl rfl (by kernel_rfl) (fun _ _ _ h => h) (Or.inr ⟨by rfl, rfl⟩) ?_ ?_
  rotate_left
  · simp only [Act.put, List.setIfInBounds_toArray, List.set_cons_zero, List.set_cons_succ, i64_w, i32_w]
    rfl
  refine Ypure_ (i := 18) (N := some 27) (v := undef) (a' := ?_) #[true, true, true, true, true, true, true, true, true, true, true, true, true, true, true, true, true, true, true, false, false, false, false, false] rfl rfl (by kernel_rfl) (fun _ _ _ h => h) (Or.inr ⟨by rfl, rfl⟩) ?_ ?_
  rotate_left
  · simp only [Act.put, List.setIfInBounds_toArray, List.set_cons_zero, List.set_cons_succ, i64_w, i32_w]
    rfl
  refine Ypure_ (i := 19) (N := some 28) (v := undef) (a' := ?_) #[true, true, true, true, true, true, true, true, true, true, true, true, true, true, true, true, true, true, true, true, false, false, false, false] rfl rfl (by kernel_rfl) (fun _ _ _ h => h) (Or.inr ⟨by rfl, rfl⟩) ?_ ?_
  rotate_left
  · simp only [Act.put, List.setIfInBounds_toArray, List.set_cons_zero, List.set_cons_succ, i64_w, i32_w]
    rfl
  refine Ypure_ (i := 20) (N := some 29) (v := undef) (a' := ?_) #[true, true, true, true, true, true, true, true, true, true, true, true, true, true, true, true, true, true, true, true, true, false, false, false] rfl rfl (by kernel_rfl) (fun _ _ _ h => h) (Or.inr ⟨by rfl, rfl⟩) ?_ ?_
  rotate_left
  · simp only [Act.put, List.setIfInBounds_toArray, List.set_cons_zero, List.set_cons_succ, i64_w, i32_w]
    rfl
  refine Ypure_ (i := 21) (N := some 30) (v := undef) (a' := ?_) #[true, true, true, true, true, true, true, true, true, true, true, true, true, true, true, true, true, true, true, true, true, true, false, false] rfl rfl (by kernel_rfl) (fun _ _ _ h => h) (Or.inr ⟨by rfl, rfl⟩) ?_ ?_
  rotate_left
  · simp only [Act.put, List.setIfInBounds_toArray, List.set_cons_zero, List.set_cons_succ, i64_w, i32_w]
    rfl
  refine Ypure_ (i := 22) (N := some 31) (v := undef) (a' := ?_) #[true, true, true, true, true, true, true, true, true, true, true, true, true, true, true, true, true, true, true, true, true, true, true, false] rfl rfl (by kernel_rfl) (fun _ _ _ h => h) (Or.inr ⟨by rfl, rfl⟩) ?_ ?_
  rotate_left
  · simp only [Act.put, List.setIfInBounds_toArray, List.set_cons_zero, List.set_cons_succ, i64_w, i32_w]
    rfl
  refine Ypure_ (i := 23) (N := some 32) (v := ?_) (a' := ?_) #[true, true, true, true, true, true, true, true, true, true, true, true, true, true, true, true, true, true, true, true, true, true, true, true] rfl rfl (by kernel_rfl) (fun _ _ _ h => h) (Or.inl ⟨by rfl, ?_⟩) ?_ ?_
  rotate_left
  · intro w'
    go_simp
    with_reducible rfl
  rotate_left
  · simp only [Act.put, List.setIfInBounds_toArray, List.set_cons_zero, List.set_cons_succ, i64_w, i32_w]
    rfl
  refine Ydone_ (by kernel_rfl) ?_
  gi_wp2
  have hn := HN.out
  refine bodyPost_ret (results_c1 rfl _ _ (N + 3) (v := .int .i64 1) (t := 24) (fr := (0, 0)) _ rfl ?_ Try.underlying24 rfl) rfl ?_
  · have h' : (w0.setCell ⟨N + 3, 0, none⟩ (.int .i64 1)).heap[N + 3]? = some (.cells #[.int .i64 1] 24 (0, 0)) := by
      have := blk_set B3.out 0 (.int .i64 1)
      simpa using this
    exact h'
  · rw [HPO.out]
    exact ⟨rfl, HBW0.out.drew.setCell (p := ⟨N + 3, 0, none⟩) (by rw [hn]; simp only; omega) _⟩
set_option maxRecDepth 100000 in
set_option maxHeartbeats 4000000 in
theorem claim_b3 (w : World) (p s U : Nat) (bs : List Pc) (h : HasB w p s U bs) (a n : Int) (hn : ¬ n < 1) (ha : ¬ a < 0) (hu : (U : Int) < n) : Calls Try.prog 22 #[.pointer (some ⟨p, 0, none⟩), .int .i64 a, .int .i64 n] w fun e w' => e = .returned (.int .i64 1) ∧ Below w.heap.size w w' := by
  have cU := h.c0
  have hmU := h.max
  obtain ⟨Po, hPo⟩ : ∃ Po, Po = fun (e : Ending) w' => e = .returned (.int .i64 1) ∧ Below w.heap.size w w' := ⟨_, rfl⟩
  have HPO := Aside0.mk hPo
  rw [← hPo]
  clear h hPo
  refine (callsIn_wide (n := 15)).1 ?_
  refine callsIn_of_wp Try.func22 rfl trivial ?_ rfl
  simp only [Try.ntmps22, List.size_toArray, List.length_cons, List.length_nil, Nat.reduceAdd, Nat.reduceSub, Array.replicate_succ, Array.replicate_zero, List.push_toArray, List.append_toArray, List.nil_append, List.cons_append]
  gi_wp2
  obtain ⟨w0, hw0⟩ : ∃ w0, w0 = ((((w.alloc (.cells #[.pointer (some ⟨p, 0, none⟩)] 23)).alloc (.cells #[.int .i64 a] 3)).alloc (.cells #[.int .i64 n] 3)).alloc (.cells #[.int .i64 0] 24)) := ⟨_, rfl⟩
  rw [← hw0]
  obtain ⟨N, hN⟩ : ∃ N, N = w.heap.size := ⟨_, rfl⟩
  have HN := Aside0.mk hN
  have HBW0 := Aside0.mk (show Below w.heap.size w w0 by rw [hw0]; exact below_alloc (below_alloc (below_alloc (below_alloc (Below.refl _ _) _) _) _) _)
  have b0 : w0.heap[N]? = some (.cells #[.pointer (some ⟨p, 0, none⟩)] 23 (0, 0)) := by rw [hw0, hN]; exact old_blk (old_blk (old_blk (heap_alloc_new w _) _) _) _
  have b1 : w0.heap[N + 1]? = some (.cells #[.int .i64 a] 3 (0, 0)) := by rw [hw0, hN]; exact old_blk (old_blk (alloc_two w _ _) _) _
  have b2 : w0.heap[N + 2]? = some (.cells #[.int .i64 n] 3 (0, 0)) := by rw [hw0, hN]; exact old_blk (alloc_three w _ _ _) _
  have b3 : w0.heap[N + 3]? = some (.cells #[.int .i64 0] 24 (0, 0)) := by
    rw [hw0, hN]
    have := alloc_two ((w.alloc (.cells #[.pointer (some ⟨p, 0, none⟩)] 23)).alloc (.cells #[.int .i64 a] 3)) (.cells #[.int .i64 n] 3) (.cells #[.int .i64 0] 24)
    simpa using this
  have B3 := Aside0.mk b3
  have c0 := blk_cell b0 (i := 0) rfl
  have c1 := blk_cell b1 (i := 0) rfl
  have c2 := blk_cell b2 (i := 0) rfl
  have c3 : w0.drew.cell? ⟨N + 3, 0, none⟩ = some (.int .i64 0) := blk_cell b3 (i := 0) rfl
  have f3 : w0.drew.frozen? ⟨N + 3, 0, none⟩ = false := blk_free b3 0
  have cp := bel_cellB HBW0.out cU
  have hb0 : decide (n < 1) = false := by simp; omega
  have hb1 : decide (a < 0) = false := by simp; omega
  have hb2 : decide ((U : Int) < n) = true := by simp; omega
  clear hw0 b0 b1 b2 b3 cU
  rw [← hN]
  clear hN
  refine Ystart_ (m := 24) (S := fun w' => w'.cell? ⟨N, 0, none⟩ = some (.pointer (some ⟨p, 0, none⟩)) ∧ w'.cell? ⟨N + 1, 0, none⟩ = some (.int .i64 a) ∧ w'.cell? ⟨N + 2, 0, none⟩ = some (.int .i64 n) ∧ w'.cell? ⟨p, 0, none⟩ = some (.int .i64 (U : Int))) (ds := []) #[false, false, false, false, false, false, false, false, false, false, false, false, false, false, false, false, false, false, false, false, false, false, false, false] (by kernel_rfl) rfl rfl (fun _ => trivial) (by kernel_rfl) ⟨c0, c1, c2, cp⟩ (fun hHeld => ?_)
  refine Ytake_ (i := 0) (N := some 9) (v := ?_) (a' := ?_) #[true, false, false, false, false, false, false, false, false, false, false, false, false, false, false, false, false, false, false, false, false, false, false, false] rfl rfl (by kernel_rfl) (fun _ _ _ h => h) (Or.inl ⟨by rfl, ?_⟩) hHeld ?_ ?_
  rotate_left
  · rintro w' ⟨s0, s1, s2, s3⟩
    go_simp
    with_reducible rfl
  rotate_left
  · simp only [Act.put, List.setIfInBounds_toArray, List.set_cons_zero, List.set_cons_succ, i64_w, i32_w]
    rfl
  refine Ypure_ (i := 1) (N := some 10) (v := ?_) (a' := ?_) #[true, true, false, false, false, false, false, false, false, false, false, false, false, false, false, false, false, false, false, false, false, false, false, false] rfl rfl (by kernel_rfl) (fun _ _ _ h => h) (Or.inl ⟨by rfl, ?_⟩) ?_ ?_
  rotate_left
  · intro w'
    go_simp
    with_reducible rfl
  rotate_left
  · simp only [Act.put, List.setIfInBounds_toArray, List.set_cons_zero, List.set_cons_succ, i64_w, i32_w]
    rfl
  refine Ypure_ (i := 2) (N := some 11) (v := ?_) (a' := ?_) #[true, true, true, false, false, false, false, false, false, false, false, false, false, false, false, false, false, false, false, false, false, false, false, false] rfl rfl (by kernel_rfl) (fun _ _ _ h => h) (Or.inl ⟨by rfl, ?_⟩) ?_ ?_
  rotate_left
  · intro w'
    go_simp
    with_reducible rfl
  rotate_left
  · simp only [Act.put, List.setIfInBounds_toArray, List.set_cons_zero, List.set_cons_succ, i64_w, i32_w]
    rfl
  refine Ytake_ (i := 3) (N := some 12) (v := ?_) (a' := ?_) #[true, true, true, true, false, false, false, false, false, false, false, false, false, false, false, false, false, false, false, false, false, false, false, false] rfl rfl (by kernel_rfl) (fun _ _ _ h => h) (Or.inl ⟨by rfl, ?_⟩) hHeld ?_ ?_
  rotate_left
  · rintro w' ⟨s0, s1, s2, s3⟩
    go_simp
    with_reducible rfl
  rotate_left
  · simp only [Act.put, List.setIfInBounds_toArray, List.set_cons_zero, List.set_cons_succ, i64_w, i32_w]
    rfl
  refine Ypure_ (i := 4) (N := some 13) (v := ?_) (a' := ?_) #[true, true, true, true, true, false, false, false, false, false, false, false, false, false, false, false, false, false, false, false, false, false, false, false] rfl rfl (by kernel_rfl) (fun _ _ _ h => h) (Or.inl ⟨by rfl, ?_⟩) ?_ ?_
  rotate_left
  · intro w'
    go_simp
    with_reducible rfl
  rotate_left
  · simp only [Act.put, List.setIfInBounds_toArray, List.set_cons_zero, List.set_cons_succ, i64_w, i32_w]
    rfl
  refine Ypure_ (i := 5) (N := some 14) (v := ?_) (a' := ?_) #[true, true, true, true, true, true, false, false, false, false, false, false, false, false, false, false, false, false, false, false, false, false, false, false] rfl rfl (by kernel_rfl) (fun _ _ _ h => h) (Or.inl ⟨by rfl, ?_⟩) ?_ ?_
  rotate_left
  · intro w'
    go_simp
    with_reducible rfl
  rotate_left
  · simp only [Act.put, List.setIfInBounds_toArray, List.set_cons_zero, List.set_cons_succ, i64_w, i32_w]
    rfl
  refine Ypure_ (i := 6) (N := some 15) (v := ?_) (a' := ?_) #[true, true, true, true, true, true, true, false, false, false, false, false, false, false, false, false, false, false, false, false, false, false, false, false] rfl rfl (by kernel_rfl) (fun _ _ _ h => h) (Or.inl ⟨by rfl, ?_⟩) ?_ ?_
  rotate_left
  · intro w'
    go_simp
    with_reducible rfl
  rotate_left
  · simp only [Act.put, List.setIfInBounds_toArray, List.set_cons_zero, List.set_cons_succ, i64_w, i32_w]
    rfl
  refine Ytake_ (i := 7) (N := some 16) (v := ?_) (a' := ?_) #[true, true, true, true, true, true, true, true, false, false, false, false, false, false, false, false, false, false, false, false, false, false, false, false] rfl rfl (by kernel_rfl) (fun _ _ _ h => h) (Or.inl ⟨by rfl, ?_⟩) hHeld ?_ ?_
  rotate_left
  · rintro w' ⟨s0, s1, s2, s3⟩
    go_simp
    with_reducible rfl
  rotate_left
  · simp only [Act.put, List.setIfInBounds_toArray, List.set_cons_zero, List.set_cons_succ, i64_w, i32_w]
    rfl
  refine Ytake_ (i := 8) (N := some 17) (v := ?_) (a' := ?_) #[true, true, true, true, true, true, true, true, true, false, false, false, false, false, false, false, false, false, false, false, false, false, false, false] rfl rfl (by kernel_rfl) (fun _ _ _ h => h) (Or.inl ⟨by rfl, ?_⟩) hHeld ?_ ?_
  rotate_left
  · rintro w' ⟨s0, s1, s2, s3⟩
    go_simp
    with_reducible rfl
  rotate_left
  · simp only [Act.put, List.setIfInBounds_toArray, List.set_cons_zero, List.set_cons_succ, i64_w, i32_w]
    rfl
  refine Ypure_ (i := 9) (N := some 18) (v := ?_) (a' := ?_) #[true, true, true, true, true, true, true, true, true, true, false, false, false, false, false, false, false, false, false, false, false, false, false, false] rfl rfl (by kernel_rfl) (fun _ _ _ h => h) (Or.inl ⟨by rfl, ?_⟩) ?_ ?_
  rotate_left
  · intro w'
    go_simp
    with_reducible rfl
  rotate_left
  · simp only [Act.put, List.setIfInBounds_toArray, List.set_cons_zero, List.set_cons_succ, i64_w, i32_w]
    rfl
  refine Ypure_ (i := 10) (N := some 19) (v := ?_) (a' := ?_) #[true, true, true, true, true, true, true, true, true, true, true, false, false, false, false, false, false, false, false, false, false, false, false, false] rfl rfl (by kernel_rfl) (fun _ _ _ h => h) (Or.inl ⟨by rfl, ?_⟩) ?_ ?_
  rotate_left
  · intro w'
    go_simp
    with_reducible rfl
  rotate_left
  · simp only [Act.put, List.setIfInBounds_toArray, List.set_cons_zero, List.set_cons_succ, i64_w, i32_w]
    rfl
  refine Ytake_ (i := 11) (N := some 20) (v := ?_) (a' := ?_) #[true, true, true, true, true, true, true, true, true, true, true, true, false, false, false, false, false, false, false, false, false, false, false, false] rfl rfl (by kernel_rfl) (fun _ _ _ h => h) (Or.inl ⟨by rfl, ?_⟩) hHeld ?_ ?_
  rotate_left
  · rintro w' ⟨s0, s1, s2, s3⟩
    go_simp
    with_reducible rfl
  rotate_left
  · simp only [Act.put, List.setIfInBounds_toArray, List.set_cons_zero, List.set_cons_succ, i64_w, i32_w]
    rfl
  refine Ypure_ (i := 12) (N := some 21) (v := ?_) (a' := ?_) #[true, true, true, true, true, true, true, true, true, true, true, true, true, false, false, false, false, false, false, false, false, false, false, false] rfl rfl (by kernel_rfl) (fun _ _ _ h => h) (Or.inl ⟨by rfl, ?_⟩) ?_ ?_
  rotate_left
  · intro w'
    go_simp
    with_reducible rfl
  rotate_left
  · simp only [Act.put, List.setIfInBounds_toArray, List.set_cons_zero, List.set_cons_succ, i64_w, i32_w]
    rfl
  refine Ypure_ (i := 13) (N := some 22) (v := ?_) (a' := ?_) #[true, true, true, true, true, true, true, true, true, true, true, true, true, true, false, false, false, false, false, false, false, false, false, false] rfl rfl (by kernel_rfl) (fun _ _ _ h => h) (Or.inl ⟨by rfl, ?_⟩) ?_ ?_
  rotate_left
  · intro w'
    go_simp
    with_reducible rfl
  rotate_left
  · simp only [Act.put, List.setIfInBounds_toArray, List.set_cons_zero, List.set_cons_succ, i64_w, i32_w]
    rfl
  refine Ypure_ (i := 14) (N := some 23) (v := ?_) (a' := ?_) #[true, true, true, true, true, true, true, true, true, true, true, true, true, true, true, false, false, false, false, false, false, false, false, false] rfl rfl (by kernel_rfl) (fun _ _ _ h => h) (Or.inl ⟨by rfl, ?_⟩) ?_ ?_
  rotate_left
  · intro w'
    go_simp
    with_reducible rfl
  rotate_left
  · simp only [Act.put, List.setIfInBounds_toArray, List.set_cons_zero, List.set_cons_succ, i64_w, i32_w]
    rfl
  refine Ypure_ (i := 15) (N := some 24) (v := undef) (a' := ?_) #[true, true, true, true, true, true, true, true, true, true, true, true, true, true, true, true, false, false, false, false, false, false, false, false] rfl rfl (by kernel_rfl) (fun _ _ _ h => h) (Or.inr ⟨by rfl, rfl⟩) ?_ ?_
  rotate_left
  · simp only [Act.put, List.setIfInBounds_toArray, List.set_cons_zero, List.set_cons_succ, i64_w, i32_w]
    rfl
  refine Ypure_ (i := 16) (N := some 25) (v := undef) (a' := ?_) #[true, true, true, true, true, true, true, true, true, true, true, true, true, true, true, true, true, false, false, false, false, false, false, false] rfl rfl (by kernel_rfl) (fun _ _ _ h => h) (Or.inr ⟨by rfl, rfl⟩) ?_ ?_
  rotate_left
  · simp only [Act.put, List.setIfInBounds_toArray, List.set_cons_zero, List.set_cons_succ, i64_w, i32_w]
    rfl
  refine Ypure_ (i := 17) (N := some 26) (v := undef) (a' := ?_) #[true, true, true, true, true, true, true, true, true, true, true, true, true, true, true, true, true, true, false, false, false, false, false, false] rfl rfl (by kernel_rfl) (fun _ _ _ h => h) (Or.inr ⟨by rfl, rfl⟩) ?_ ?_
  rotate_left
  · simp only [Act.put, List.setIfInBounds_toArray, List.set_cons_zero, List.set_cons_succ, i64_w, i32_w]
    rfl
  refine Ypure_ (i := 18) (N := some 27) (v := undef) (a' := ?_) #[true, true, true, true, true, true, true, true, true, true, true, true, true, true, true, true, true, true, true, false, false, false, false, false] rfl rfl (by kernel_rfl) (fun _ _ _ h => h) (Or.inr ⟨by rfl, rfl⟩) ?_ ?_
  rotate_left
  · simp only [Act.put, List.setIfInBounds_toArray, List.set_cons_zero, List.set_cons_succ, i64_w, i32_w]
    rfl
  refine Ypure_ (i := 19) (N := some 28) (v := undef) (a' := ?_) #[true, true, true, true, true, true, true, true, true, true, true, true, true, true, true, true, true, true, true, true, false, false, false, false] rfl rfl (by kernel_rfl) (fun _ _ _ h => h) (Or.inr ⟨by rfl, rfl⟩) ?_ ?_
  rotate_left
  · simp only [Act.put, List.setIfInBounds_toArray, List.set_cons_zero, List.set_cons_succ, i64_w, i32_w]
    rfl
  refine Ypure_ (i := 20) (N := some 29) (v := undef) (a' := ?_) #[true, true, true, true, true, true, true, true, true, true, true, true, true, true, true, true, true, true, true, true, true, false, false, false] rfl rfl (by kernel_rfl) (fun _ _ _ h => h) (Or.inr ⟨by rfl, rfl⟩) ?_ ?_
  rotate_left
  · simp only [Act.put, List.setIfInBounds_toArray, List.set_cons_zero, List.set_cons_succ, i64_w, i32_w]
    rfl
  refine Ypure_ (i := 21) (N := some 30) (v := undef) (a' := ?_) #[true, true, true, true, true, true, true, true, true, true, true, true, true, true, true, true, true, true, true, true, true, true, false, false] rfl rfl (by kernel_rfl) (fun _ _ _ h => h) (Or.inr ⟨by rfl, rfl⟩) ?_ ?_
  rotate_left
  · simp only [Act.put, List.setIfInBounds_toArray, List.set_cons_zero, List.set_cons_succ, i64_w, i32_w]
    rfl
  refine Ypure_ (i := 22) (N := some 31) (v := undef) (a' := ?_) #[true, true, true, true, true, true, true, true, true, true, true, true, true, true, true, true, true, true, true, true, true, true, true, false] rfl rfl (by kernel_rfl) (fun _ _ _ h => h) (Or.inr ⟨by rfl, rfl⟩) ?_ ?_
  rotate_left
  · simp only [Act.put, List.setIfInBounds_toArray, List.set_cons_zero, List.set_cons_succ, i64_w, i32_w]
    rfl
  refine Ypure_ (i := 23) (N := some 32) (v := ?_) (a' := ?_) #[true, true, true, true, true, true, true, true, true, true, true, true, true, true, true, true, true, true, true, true, true, true, true, true] rfl rfl (by kernel_rfl) (fun _ _ _ h => h) (Or.inl ⟨by rfl, ?_⟩) ?_ ?_
  rotate_left
  · intro w'
    go_simp
    with_reducible rfl
  rotate_left
  · simp only [Act.put, List.setIfInBounds_toArray, List.set_cons_zero, List.set_cons_succ, i64_w, i32_w]
    rfl
  refine Ydone_ (by kernel_rfl) ?_
  gi_wp2
  have hn := HN.out
  refine bodyPost_ret (results_c1 rfl _ _ (N + 3) (v := .int .i64 1) (t := 24) (fr := (0, 0)) _ rfl ?_ Try.underlying24 rfl) rfl ?_
  · have h' : (w0.setCell ⟨N + 3, 0, none⟩ (.int .i64 1)).heap[N + 3]? = some (.cells #[.int .i64 1] 24 (0, 0)) := by
      have := blk_set B3.out 0 (.int .i64 1)
      simpa using this
    exact h'
  · rw [HPO.out]
    exact ⟨rfl, HBW0.out.drew.setCell (p := ⟨N + 3, 0, none⟩) (by rw [hn]; simp only; omega) _⟩
set_option maxRecDepth 100000 in
set_option maxHeartbeats 4000000 in
theorem claim_b4 (w : World) (p s U : Nat) (bs : List Pc) (h : HasB w p s U bs) (a n : Int) (hn : ¬ n < 1) (ha : ¬ a < 0) (hu : ¬ (U : Int) < n) (hd : (U : Int) - n < a) : Calls Try.prog 22 #[.pointer (some ⟨p, 0, none⟩), .int .i64 a, .int .i64 n] w fun e w' => e = .returned (.int .i64 1) ∧ Below w.heap.size w w' := by
  have cU := h.c0
  have hmU := h.max
  obtain ⟨Po, hPo⟩ : ∃ Po, Po = fun (e : Ending) w' => e = .returned (.int .i64 1) ∧ Below w.heap.size w w' := ⟨_, rfl⟩
  have HPO := Aside0.mk hPo
  rw [← hPo]
  clear h hPo
  refine (callsIn_wide (n := 15)).1 ?_
  refine callsIn_of_wp Try.func22 rfl trivial ?_ rfl
  simp only [Try.ntmps22, List.size_toArray, List.length_cons, List.length_nil, Nat.reduceAdd, Nat.reduceSub, Array.replicate_succ, Array.replicate_zero, List.push_toArray, List.append_toArray, List.nil_append, List.cons_append]
  gi_wp2
  obtain ⟨w0, hw0⟩ : ∃ w0, w0 = ((((w.alloc (.cells #[.pointer (some ⟨p, 0, none⟩)] 23)).alloc (.cells #[.int .i64 a] 3)).alloc (.cells #[.int .i64 n] 3)).alloc (.cells #[.int .i64 0] 24)) := ⟨_, rfl⟩
  rw [← hw0]
  obtain ⟨N, hN⟩ : ∃ N, N = w.heap.size := ⟨_, rfl⟩
  have HN := Aside0.mk hN
  have HBW0 := Aside0.mk (show Below w.heap.size w w0 by rw [hw0]; exact below_alloc (below_alloc (below_alloc (below_alloc (Below.refl _ _) _) _) _) _)
  have b0 : w0.heap[N]? = some (.cells #[.pointer (some ⟨p, 0, none⟩)] 23 (0, 0)) := by rw [hw0, hN]; exact old_blk (old_blk (old_blk (heap_alloc_new w _) _) _) _
  have b1 : w0.heap[N + 1]? = some (.cells #[.int .i64 a] 3 (0, 0)) := by rw [hw0, hN]; exact old_blk (old_blk (alloc_two w _ _) _) _
  have b2 : w0.heap[N + 2]? = some (.cells #[.int .i64 n] 3 (0, 0)) := by rw [hw0, hN]; exact old_blk (alloc_three w _ _ _) _
  have b3 : w0.heap[N + 3]? = some (.cells #[.int .i64 0] 24 (0, 0)) := by
    rw [hw0, hN]
    have := alloc_two ((w.alloc (.cells #[.pointer (some ⟨p, 0, none⟩)] 23)).alloc (.cells #[.int .i64 a] 3)) (.cells #[.int .i64 n] 3) (.cells #[.int .i64 0] 24)
    simpa using this
  have B3 := Aside0.mk b3
  have c0 := blk_cell b0 (i := 0) rfl
  have c1 := blk_cell b1 (i := 0) rfl
  have c2 := blk_cell b2 (i := 0) rfl
  have c3 : w0.drew.cell? ⟨N + 3, 0, none⟩ = some (.int .i64 0) := blk_cell b3 (i := 0) rfl
  have f3 : w0.drew.frozen? ⟨N + 3, 0, none⟩ = false := blk_free b3 0
  have cp := bel_cellB HBW0.out cU
  have hb0 : decide (n < 1) = false := by simp; omega
  have hb1 : decide (a < 0) = false := by simp; omega
  have hb2 : decide ((U : Int) < n) = false := by simp; omega
  have hb3 : decide ((U : Int) - n < a) = true := by simp; omega
  have hwi : IntKind.i64.wrap ((U : Int) - n) = (U : Int) - n := IntWalk.i64_in _ (by omega)
  clear hw0 b0 b1 b2 b3 cU
  rw [← hN]
  clear hN
  refine Ystart_ (m := 24) (S := fun w' => w'.cell? ⟨N, 0, none⟩ = some (.pointer (some ⟨p, 0, none⟩)) ∧ w'.cell? ⟨N + 1, 0, none⟩ = some (.int .i64 a) ∧ w'.cell? ⟨N + 2, 0, none⟩ = some (.int .i64 n) ∧ w'.cell? ⟨p, 0, none⟩ = some (.int .i64 (U : Int))) (ds := []) #[false, false, false, false, false, false, false, false, false, false, false, false, false, false, false, false, false, false, false, false, false, false, false, false] (by kernel_rfl) rfl rfl (fun _ => trivial) (by kernel_rfl) ⟨c0, c1, c2, cp⟩ (fun hHeld => ?_)
  refine Ytake_ (i := 0) (N := some 9) (v := ?_) (a' := ?_) #[true, false, false, false, false, false, false, false, false, false, false, false, false, false, false, false, false, false, false, false, false, false, false, false] rfl rfl (by kernel_rfl) (fun _ _ _ h => h) (Or.inl ⟨by rfl, ?_⟩) hHeld ?_ ?_
  rotate_left
  · rintro w' ⟨s0, s1, s2, s3⟩
    go_simp
    with_reducible rfl
  rotate_left
  · simp only [Act.put, List.setIfInBounds_toArray, List.set_cons_zero, List.set_cons_succ, i64_w, i32_w]
    rfl
  refine Ypure_ (i := 1) (N := some 10) (v := ?_) (a' := ?_) #[true, true, false, false, false, false, false, false, false, false, false, false, false, false, false, false, false, false, false, false, false, false, false, false] rfl rfl (by kernel_rfl) (fun _ _ _ h => h) (Or.inl ⟨by rfl, ?_⟩) ?_ ?_
  rotate_left
  · intro w'
    go_simp
    with_reducible rfl
  rotate_left
  · simp only [Act.put, List.setIfInBounds_toArray, List.set_cons_zero, List.set_cons_succ, i64_w, i32_w]
    rfl
  refine Ypure_ (i := 2) (N := some 11) (v := ?_) (a' := ?_) #[true, true, true, false, false, false, false, false, false, false, false, false, false, false, false, false, false, false, false, false, false, false, false, false] rfl rfl (by kernel_rfl) (fun _ _ _ h => h) (Or.inl ⟨by rfl, ?_⟩) ?_ ?_
  rotate_left
  · intro w'
    go_simp
    with_reducible rfl
  rotate_left
  · simp only [Act.put, List.setIfInBounds_toArray, List.set_cons_zero, List.set_cons_succ, i64_w, i32_w]
    rfl
  refine Ytake_ (i := 3) (N := some 12) (v := ?_) (a' := ?_) #[true, true, true, true, false, false, false, false, false, false, false, false, false, false, false, false, false, false, false, false, false, false, false, false] rfl rfl (by kernel_rfl) (fun _ _ _ h => h) (Or.inl ⟨by rfl, ?_⟩) hHeld ?_ ?_
  rotate_left
  · rintro w' ⟨s0, s1, s2, s3⟩
    go_simp
    with_reducible rfl
  rotate_left
  · simp only [Act.put, List.setIfInBounds_toArray, List.set_cons_zero, List.set_cons_succ, i64_w, i32_w]
    rfl
  refine Ypure_ (i := 4) (N := some 13) (v := ?_) (a' := ?_) #[true, true, true, true, true, false, false, false, false, false, false, false, false, false, false, false, false, false, false, false, false, false, false, false] rfl rfl (by kernel_rfl) (fun _ _ _ h => h) (Or.inl ⟨by rfl, ?_⟩) ?_ ?_
  rotate_left
  · intro w'
    go_simp
    with_reducible rfl
  rotate_left
  · simp only [Act.put, List.setIfInBounds_toArray, List.set_cons_zero, List.set_cons_succ, i64_w, i32_w]
    rfl
  refine Ypure_ (i := 5) (N := some 14) (v := ?_) (a' := ?_) #[true, true, true, true, true, true, false, false, false, false, false, false, false, false, false, false, false, false, false, false, false, false, false, false] rfl rfl (by kernel_rfl) (fun _ _ _ h => h) (Or.inl ⟨by rfl, ?_⟩) ?_ ?_
  rotate_left
  · intro w'
    go_simp
    with_reducible rfl
  rotate_left
  · simp only [Act.put, List.setIfInBounds_toArray, List.set_cons_zero, List.set_cons_succ, i64_w, i32_w]
    rfl
  refine Ypure_ (i := 6) (N := some 15) (v := ?_) (a' := ?_) #[true, true, true, true, true, true, true, false, false, false, false, false, false, false, false, false, false, false, false, false, false, false, false, false] rfl rfl (by kernel_rfl) (fun _ _ _ h => h) (Or.inl ⟨by rfl, ?_⟩) ?_ ?_
  rotate_left
  · intro w'
    go_simp
    with_reducible rfl
  rotate_left
  · simp only [Act.put, List.setIfInBounds_toArray, List.set_cons_zero, List.set_cons_succ, i64_w, i32_w]
    rfl
  refine Ytake_ (i := 7) (N := some 16) (v := ?_) (a' := ?_) #[true, true, true, true, true, true, true, true, false, false, false, false, false, false, false, false, false, false, false, false, false, false, false, false] rfl rfl (by kernel_rfl) (fun _ _ _ h => h) (Or.inl ⟨by rfl, ?_⟩) hHeld ?_ ?_
  rotate_left
  · rintro w' ⟨s0, s1, s2, s3⟩
    go_simp
    with_reducible rfl
  rotate_left
  · simp only [Act.put, List.setIfInBounds_toArray, List.set_cons_zero, List.set_cons_succ, i64_w, i32_w]
    rfl
  refine Ytake_ (i := 8) (N := some 17) (v := ?_) (a' := ?_) #[true, true, true, true, true, true, true, true, true, false, false, false, false, false, false, false, false, false, false, false, false, false, false, false] rfl rfl (by kernel_rfl) (fun _ _ _ h => h) (Or.inl ⟨by rfl, ?_⟩) hHeld ?_ ?_
  rotate_left
  · rintro w' ⟨s0, s1, s2, s3⟩
    go_simp
    with_reducible rfl
  rotate_left
  · simp only [Act.put, List.setIfInBounds_toArray, List.set_cons_zero, List.set_cons_succ, i64_w, i32_w]
    rfl
  refine Ypure_ (i := 9) (N := some 18) (v := ?_) (a' := ?_) #[true, true, true, true, true, true, true, true, true, true, false, false, false, false, false, false, false, false, false, false, false, false, false, false] rfl rfl (by kernel_rfl) (fun _ _ _ h => h) (Or.inl ⟨by rfl, ?_⟩) ?_ ?_
  rotate_left
  · intro w'
    go_simp
    with_reducible rfl
  rotate_left
  · simp only [Act.put, List.setIfInBounds_toArray, List.set_cons_zero, List.set_cons_succ, i64_w, i32_w]
    rfl
  refine Ypure_ (i := 10) (N := some 19) (v := ?_) (a' := ?_) #[true, true, true, true, true, true, true, true, true, true, true, false, false, false, false, false, false, false, false, false, false, false, false, false] rfl rfl (by kernel_rfl) (fun _ _ _ h => h) (Or.inl ⟨by rfl, ?_⟩) ?_ ?_
  rotate_left
  · intro w'
    go_simp
    with_reducible rfl
  rotate_left
  · simp only [Act.put, List.setIfInBounds_toArray, List.set_cons_zero, List.set_cons_succ, i64_w, i32_w]
    rfl
  refine Ytake_ (i := 11) (N := some 20) (v := ?_) (a' := ?_) #[true, true, true, true, true, true, true, true, true, true, true, true, false, false, false, false, false, false, false, false, false, false, false, false] rfl rfl (by kernel_rfl) (fun _ _ _ h => h) (Or.inl ⟨by rfl, ?_⟩) hHeld ?_ ?_
  rotate_left
  · rintro w' ⟨s0, s1, s2, s3⟩
    go_simp
    with_reducible rfl
  rotate_left
  · simp only [Act.put, List.setIfInBounds_toArray, List.set_cons_zero, List.set_cons_succ, i64_w, i32_w]
    rfl
  refine Ypure_ (i := 12) (N := some 21) (v := ?_) (a' := ?_) #[true, true, true, true, true, true, true, true, true, true, true, true, true, false, false, false, false, false, false, false, false, false, false, false] rfl rfl (by kernel_rfl) (fun _ _ _ h => h) (Or.inl ⟨by rfl, ?_⟩) ?_ ?_
  rotate_left
  · intro w'
    go_simp
    with_reducible rfl
  rotate_left
  · simp only [Act.put, List.setIfInBounds_toArray, List.set_cons_zero, List.set_cons_succ, i64_w, i32_w]
    rfl
  refine Ypure_ (i := 13) (N := some 22) (v := ?_) (a' := ?_) #[true, true, true, true, true, true, true, true, true, true, true, true, true, true, false, false, false, false, false, false, false, false, false, false] rfl rfl (by kernel_rfl) (fun _ _ _ h => h) (Or.inl ⟨by rfl, ?_⟩) ?_ ?_
  rotate_left
  · intro w'
    go_simp
    with_reducible rfl
  rotate_left
  · simp only [Act.put, List.setIfInBounds_toArray, List.set_cons_zero, List.set_cons_succ, i64_w, i32_w]
    rfl
  refine Ypure_ (i := 14) (N := some 23) (v := ?_) (a' := ?_) #[true, true, true, true, true, true, true, true, true, true, true, true, true, true, true, false, false, false, false, false, false, false, false, false] rfl rfl (by kernel_rfl) (fun _ _ _ h => h) (Or.inl ⟨by rfl, ?_⟩) ?_ ?_
  rotate_left
  · intro w'
    go_simp
    with_reducible rfl
  rotate_left
  · simp only [Act.put, List.setIfInBounds_toArray, List.set_cons_zero, List.set_cons_succ, i64_w, i32_w]
    rfl
  refine Ytake_ (i := 15) (N := some 24) (v := ?_) (a' := ?_) #[true, true, true, true, true, true, true, true, true, true, true, true, true, true, true, true, false, false, false, false, false, false, false, false] rfl rfl (by kernel_rfl) (fun _ _ _ h => h) (Or.inl ⟨by rfl, ?_⟩) hHeld ?_ ?_
  rotate_left
  · rintro w' ⟨s0, s1, s2, s3⟩
    go_simp
    with_reducible rfl
  rotate_left
  · simp only [Act.put, List.setIfInBounds_toArray, List.set_cons_zero, List.set_cons_succ, i64_w, i32_w]
    rfl
  refine Ytake_ (i := 16) (N := some 25) (v := ?_) (a' := ?_) #[true, true, true, true, true, true, true, true, true, true, true, true, true, true, true, true, true, false, false, false, false, false, false, false] rfl rfl (by kernel_rfl) (fun _ _ _ h => h) (Or.inl ⟨by rfl, ?_⟩) hHeld ?_ ?_
  rotate_left
  · rintro w' ⟨s0, s1, s2, s3⟩
    go_simp
    with_reducible rfl
  rotate_left
  · simp only [Act.put, List.setIfInBounds_toArray, List.set_cons_zero, List.set_cons_succ, i64_w, i32_w]
    rfl
  refine Ypure_ (i := 17) (N := some 26) (v := ?_) (a' := ?_) #[true, true, true, true, true, true, true, true, true, true, true, true, true, true, true, true, true, true, false, false, false, false, false, false] rfl rfl (by kernel_rfl) (fun _ _ _ h => h) (Or.inl ⟨by rfl, ?_⟩) ?_ ?_
  rotate_left
  · intro w'
    go_simp
    with_reducible rfl
  rotate_left
  · simp only [Act.put, List.setIfInBounds_toArray, List.set_cons_zero, List.set_cons_succ, i64_w, i32_w]
    rfl
  refine Ypure_ (i := 18) (N := some 27) (v := ?_) (a' := ?_) #[true, true, true, true, true, true, true, true, true, true, true, true, true, true, true, true, true, true, true, false, false, false, false, false] rfl rfl (by kernel_rfl) (fun _ _ _ h => h) (Or.inl ⟨by rfl, ?_⟩) ?_ ?_
  rotate_left
  · intro w'
    go_simp
    with_reducible rfl
  rotate_left
  · simp only [Act.put, List.setIfInBounds_toArray, List.set_cons_zero, List.set_cons_succ, i64_w, i32_w]
    rfl
  refine Ytake_ (i := 19) (N := some 28) (v := ?_) (a' := ?_) #[true, true, true, true, true, true, true, true, true, true, true, true, true, true, true, true, true, true, true, true, false, false, false, false] rfl rfl (by kernel_rfl) (fun _ _ _ h => h) (Or.inl ⟨by rfl, ?_⟩) hHeld ?_ ?_
  rotate_left
  · rintro w' ⟨s0, s1, s2, s3⟩
    go_simp
    with_reducible rfl
  rotate_left
  · simp only [Act.put, List.setIfInBounds_toArray, List.set_cons_zero, List.set_cons_succ, i64_w, i32_w]
    rfl
  refine Ytake_ (i := 20) (N := some 29) (v := ?_) (a' := ?_) #[true, true, true, true, true, true, true, true, true, true, true, true, true, true, true, true, true, true, true, true, true, false, false, false] rfl rfl (by kernel_rfl) (fun _ _ _ h => h) (Or.inl ⟨by rfl, ?_⟩) hHeld ?_ ?_
  rotate_left
  · rintro w' ⟨s0, s1, s2, s3⟩
    go_simp
    with_reducible rfl
  rotate_left
  · simp only [Act.put, List.setIfInBounds_toArray, List.set_cons_zero, List.set_cons_succ, i64_w, i32_w]
    rfl
  refine Ypure_ (i := 21) (N := some 30) (v := ?_) (a' := ?_) #[true, true, true, true, true, true, true, true, true, true, true, true, true, true, true, true, true, true, true, true, true, true, false, false] rfl rfl (by kernel_rfl) (fun _ _ _ h => h) (Or.inl ⟨by rfl, ?_⟩) ?_ ?_
  rotate_left
  · intro w'
    go_simp
    with_reducible rfl
  rotate_left
  · simp only [Act.put, List.setIfInBounds_toArray, List.set_cons_zero, List.set_cons_succ, i64_w, i32_w]
    rfl
  refine Ypure_ (i := 22) (N := some 31) (v := ?_) (a' := ?_) #[true, true, true, true, true, true, true, true, true, true, true, true, true, true, true, true, true, true, true, true, true, true, true, false] rfl rfl (by kernel_rfl) (fun _ _ _ h => h) (Or.inl ⟨by rfl, ?_⟩) ?_ ?_
  rotate_left
  · intro w'
    go_simp
    with_reducible rfl
  rotate_left
  · simp only [Act.put, List.setIfInBounds_toArray, List.set_cons_zero, List.set_cons_succ, i64_w, i32_w]
    rfl
  refine Ypure_ (i := 23) (N := some 32) (v := ?_) (a' := ?_) #[true, true, true, true, true, true, true, true, true, true, true, true, true, true, true, true, true, true, true, true, true, true, true, true] rfl rfl (by kernel_rfl) (fun _ _ _ h => h) (Or.inl ⟨by rfl, ?_⟩) ?_ ?_
  rotate_left
  · intro w'
    go_simp
    with_reducible rfl
  rotate_left
  · simp only [Act.put, List.setIfInBounds_toArray, List.set_cons_zero, List.set_cons_succ, i64_w, i32_w]
    rfl
  refine Ydone_ (by kernel_rfl) ?_
  gi_wp2
  have hn := HN.out
  refine bodyPost_ret (results_c1 rfl _ _ (N + 3) (v := .int .i64 1) (t := 24) (fr := (0, 0)) _ rfl ?_ Try.underlying24 rfl) rfl ?_
  · have h' : (w0.setCell ⟨N + 3, 0, none⟩ (.int .i64 1)).heap[N + 3]? = some (.cells #[.int .i64 1] 24 (0, 0)) := by
      have := blk_set B3.out 0 (.int .i64 1)
      simpa using this
    exact h'
  · rw [HPO.out]
    exact ⟨rfl, HBW0.out.drew.setCell (p := ⟨N + 3, 0, none⟩) (by rw [hn]; simp only; omega) _⟩
theorem claim_bad (w : World) (p s U : Nat) (bs : List Pc) (h : HasB w p s U bs) (a n : Int) (hb : n < 1 ∨ a < 0 ∨ (U : Int) < n ∨ (U : Int) - n < a) : Calls Try.prog 22 #[.pointer (some ⟨p, 0, none⟩), .int .i64 a, .int .i64 n] w fun e w' => e = .returned (.int .i64 1) ∧ Below w.heap.size w w' := by
  by_cases hn : n < 1
  · exact claim_b1 w p s U bs h a n hn
  by_cases ha : a < 0
  · exact claim_b2 w p s U bs h a n hn ha
  by_cases hu : (U : Int) < n
  · exact claim_b3 w p s U bs h a n hn ha hu
  · exact claim_b4 w p s U bs h a n hn ha hu (by omega)
end Go.Proofs.Ytgendnoafemgpaa.Hand
namespace Go.Proofs.Ytgendnoafemgpaa.Hand
open Go.RowKit Go.Proofs.YtgendnoafemgpaaW.PrintWords

end Go.Proofs.Ytgendnoafemgpaa.Hand
namespace Go.Proofs.Ytgendnoafemgpaa.Hand
open Go.ChangeShapes Go.WideShapes Go.ChangeAt Go.RowKit Go.Proofs.YtgendnoafemgpaaW.PrintWords

theorem wf_i64 {n : Int} (h : (Lit.int .i64 n).wf = true) : -9223372036854775808 ≤ n ∧ n ≤ 9223372036854775807 := by
  simp only [Lit.wf, IntKind.min, IntKind.max, IntKind.signed, IntKind.bits, Bool.and_eq_true] at h
  simp at h
  omega
theorem open_bytes {H : Type} {enc : TypeId × Value → H} {W : World} {held : Bool} {a : Option Addr} {len cap : Nat} {d : DataW H} {ps : List MemPlace}
    (h : DataW.Trod enc Try.prog W 0 (fun _ => true) held 49 (.slice a len cap) d ps) : ∃ l : List Int, len = l.length ∧ ReadsInt W .u8 a l.length l ∧ Bys l := by
  obtain ⟨fuel, hf⟩ := h
  rcases open_ints Try.underlying49 Try.underlying5 (by kernel_rfl) hf with ⟨hcs, _⟩ | ⟨x, l, c, zs, hcs, _, hl, hm, hz, _, hcell, hwz⟩
  · simp [Value.cells] at hcs
    obtain ⟨rfl, rfl, rfl⟩ := hcs
    exact ⟨[], rfl, ⟨rfl, by simp, fun h => absurd h (by simp)⟩, fun x hx => absurd hx (by simp)⟩
  · simp [Value.cells] at hcs
    obtain ⟨rfl, rfl, rfl⟩ := hcs
    have hz' : zs.length = cap := by simpa using hz
    have hlen : (zs.take len).length = len := by rw [List.length_take]; omega
    refine ⟨zs.take len, hlen.symm, ⟨rfl, by rw [hlen]; simp only [maxLen] at hm; omega, fun _ => ⟨x, rfl, fun j hj => ?_⟩⟩, fun n hn => ?_⟩
    · rw [hlen] at hj
      rw [hcell j (by omega)]
      congr 2
      rw [List.getD_eq_getElem?_getD, List.getD_eq_getElem?_getD, List.getElem?_take_of_lt hj]
    · have := hwz n (List.mem_of_mem_take hn)
      simp only [Lit.wf, IntKind.min, IntKind.max, IntKind.signed, IntKind.bits, Bool.and_eq_true] at this
      simp at this
      omega
end Go.Proofs.Ytgendnoafemgpaa.Hand
namespace Go.Proofs.Ytgendnoafemgpaa.Hand
open Go.RowKit Go.Proofs.YtgendnoafemgpaaW.PrintWords

theorem str_inj {l m : List Int} (hl : Bys l) (hm : Bys m) (h : strOfNums l = strOfNums m) : l = m := by
  rw [← bytes_str hl, h, bytes_str hm]
end Go.Proofs.Ytgendnoafemgpaa.Hand
namespace Go.Proofs.Ytgendnoafemgpaa.Hand
attribute [local go_sem] Oper.semAt_some
open Go.RowKit Go.Maps Go.Sort Go.Shelf Go.Proofs.YtgendnoafemgpaaW.PrintWords Go.Proofs.YtgendnoafemgpaaW.PrintLast
set_option linter.unusedVariables false
set_option linter.unusedSimpArgs false
theorem bk_size {w : World} {b n U : Nat} {D : DataW Value} {bs : List Pc} (hok : Chain 0 bs U) (h : w.ownsMap Try.prog 3 heldR b n D) (hf : Fits D (bkF bs)) : Maps.size D = bs.length := by
  refine Nat.le_antisymm (size_le_of_room law_intB h hf ⟨bs.map (fun q => Lit.int .i64 (q.1 : Int)), by simp, fun kl hk => ?_⟩) ?_
  · obtain ⟨k, rfl, hk0⟩ := bkF_some hk
    obtain ⟨q, hq, rfl⟩ := (longN_pos hok).1 hk0
    exact List.mem_map.2 ⟨q, hq, rfl⟩
  · obtain ⟨es, rfl, hp, hkey⟩ := h.entries law_intB
    have hnd : (bs.map (fun q => Lit.int .i64 (q.1 : Int))).Nodup := by
      have := chain_starts hok
      rw [startsI, List.pairwise_map] at this
      refine List.pairwise_map.2 (this.imp (fun h e => ?_))
      simp only [Lit.int.injEq, true_and] at e
      omega
    have := nodup_len _ (es.map (·.1)) hnd (fun x hx => by
      obtain ⟨q, hq, rfl⟩ := List.mem_map.1 hx
      have h1 := (hf (.int .i64 (q.1 : Int))).1
      rw [bkF_nat, decide_eq_true ((longN_pos hok).2 ⟨q, hq, rfl⟩), has_eq, List.any_eq_true] at h1
      obtain ⟨p, hp1, hp2⟩ := h1
      exact List.mem_map.2 ⟨p, hp1, lit_i64_same hp2⟩)
    simpa [Maps.size] using this
theorem run_lenM {w : World} {p s U : Nat} {bs : List Pc} (h : HasB w p s U bs) (ty : TypeId) : (Builtin.len_ #[56] ty #[.map (some s)]).run Try.prog w = .ok (.int .i64 (bs.length : Int)) w := by
  obtain ⟨D, hD, hf⟩ := h.map
  rw [hD.len Try.underlying56 ty, bk_size h.ok hD hf]
def encL (U : Nat) (bs : List Pc) : List Int := leB U 2 ++ leB bs.length 2
def encG (bs : List Pc) : List Int := bs.flatMap fun q => leB q.1 2 ++ leB q.2 2
theorem encG_snoc (bs : List Pc) (q : Pc) : encG (bs ++ [q]) = (encG bs ++ leB q.1 2) ++ leB q.2 2 := by simp [encG, List.flatMap_append]
theorem encG_length (bs : List Pc) : (encG bs).length = 4 * bs.length := by
  induction bs with
  | nil => rfl
  | cons q l ih => rw [encG, List.flatMap_cons, List.length_append]; rw [encG] at ih; rw [ih]; simp [leB_length]; omega
theorem fits_two {k : Nat} (h : k ≤ 1024) : fitsB (k : Int) 2 = true := by
  simp only [fitsB, rightB]
  simp
  omega
/-- A row with its block's place, and what Put makes of it. -/
theorem put_row (T T' : Nat → Prop) (v : Value) (l : List Int) (k : Nat) (w : World) (hk : k ≤ 1024) (ho : Kd.R (Kd.int .u8) 5 w 0 T v l) (hl : l.length ≤ 5000) (hT : ∀ b, T b → T' b) (hN : ∀ b, w.heap.size ≤ b → T' b) :
    Calls Try.prog 44 #[v, .int .i64 2, .int .u64 (k : Int)] w fun e w' => ∃ v' : Value, e = .returned (.tuple #[v', .bool true]) ∧ Kd.R (Kd.int .u8) 5 w' 0 T' v' (l ++ leB k 2) ∧ Fr (fun b => T b) w w' := by
  refine (put_calls T v l 2 k w ho (fits_two hk) (by omega)).mono ?_
  rintro e w' ⟨v', he, hr, hf⟩
  exact ⟨v', he, Kd.R_mono hr (fun b hb => by rcases hb with h | h; exact hT b h; exact hN b h), hf⟩
theorem R8_ref {w : World} {e base : Nat} {T T' : Nat → Prop} {v : Value} {xs : List Int} (h : Kd.R (Kd.int .u8) e w base T v xs) (h' : ∀ b, v.ownBlock = some b → b < w.heap.size → T b → T' b) : Kd.R (Kd.int .u8) e w base T' v xs := by
  refine Kd.R_of_own (Kd.own_of_R h) (fun b hb => h' b hb ?_ (h.1 b hb))
  obtain ⟨_, inner, ho, _⟩ := h
  obtain ⟨cs, hc⟩ := own_typed ho b hb
  exact (Array.getElem?_eq_some_iff.1 hc).1
theorem R8_keep {w w1 : World} {e base : Nat} {T : Nat → Prop} {v : Value} {xs : List Int} (h : Kd.R (Kd.int .u8) e w base T v xs) (hb : ∀ b, b < w.heap.size → T b → w1.heap[b]? = w.heap[b]?) : Kd.R (Kd.int .u8) e w1 base T v xs := by
  refine Kd.R_of_own (own_move (Kd.own_of_R h) (fun b hb' => hb b ?_ (h.1 b hb'))) h.1
  obtain ⟨_, inner, ho, _⟩ := h
  obtain ⟨cs, hc⟩ := own_typed ho b hb'
  exact (Array.getElem?_eq_some_iff.1 hc).1
theorem R8_itg {w w1 : World} {e base N : Nat} {T : Nat → Prop} {v : Value} {xs : List Int} (h : Kd.R (Kd.int .u8) e w base T v xs) (hg : ItG N w w1) : Kd.R (Kd.int .u8) e w1 base T v xs := by
  refine Kd.R_of_own (own_move (Kd.own_of_R h) (fun b hb' => ?_)) h.1
  obtain ⟨_, inner, ho, _⟩ := h
  obtain ⟨cs, hc⟩ := own_typed ho b hb'
  obtain ⟨row, hgr, hr⟩ := hg
  refine hgr.block b (Array.getElem?_eq_some_iff.1 hc).1 (fun e => ?_)
  obtain ⟨_, o, ho2, hcells⟩ := hr b e.symm
  rw [hc] at ho2
  cases ho2
  cases hcells
/-- What the loop over the blocks holds. -/
structure EncI (N X B : Nat) (w : World) (L2 : List Int) (bs : List Pc) (M k : Nat) (W : World) : Prop where
  ex : ∃ A c, W.heap[B]? = some (.cells #[.slice A (4 + 4 * k) c] 49 (0, 0)) ∧ Kd.R (Kd.int .u8) 5 W 0 (fun b => (N ≤ b ∧ b < X ∧ b ≠ B) ∨ M ≤ b) (.slice A (4 + 4 * k) c) (L2 ++ encG (bs.take k)) ∧ Below N w W
set_option maxRecDepth 100000 in
set_option maxHeartbeats 8000000 in
theorem encode_calls (w : World) (p s U : Nat) (bs : List Pc) (h : HasB w p s U bs) :
    Calls Try.prog 27 #[.pointer (some ⟨p, 0, none⟩)] w fun e w' => ∃ v : Value, e = .returned v ∧ Kd.R (Kd.int .u8) 5 w' 0 (fun b => w.heap.size ≤ b) v (encL U bs ++ encG bs) ∧ Below w.heap.size w w' := by
  have HH := Aside0.mk h
  have hmU := h.max
  have hbl := h.ok.le_len
  have c0 := h.c0
  have hcU : IntKind.u64.wrap (U : Int) = U := u64_wrap_of (by omega) (by omega)
  have cP := fun (w : World) (T : Nat → Prop) (v : Value) (l : List Int) (k : Nat) h1 h2 h3 h4 => callsIn_wide (n := 14).2 (put_row T T v l k w h1 h2 h3 (fun _ h => h) h4)
  have hfP : Fence.wide.fn 44 := trivial
  have cE := fun (w : World) => callsIn_wide (n := 14).2 (each_calls w p)
  have hfE : Fence.wide.fn 13 := trivial
  clear h
  refine (callsIn_wide (n := 15)).1 ?_
  refine callsIn_of_wp_marks Try.func27 rfl trivial ?_ rfl
  simp only [Try.ntmps27, List.size_toArray, List.length_cons, List.length_nil, Nat.reduceAdd, Nat.reduceSub, Array.replicate_succ, Array.replicate_zero, List.push_toArray, List.append_toArray, List.nil_append, List.cons_append]
  gi_wp2_with (gi_at_call 44; refine (cP _ (fun b => w.heap.size ≤ b) (.slice none 0 0) [] U hmU (Kd.R_nil _ _ _ _ _) (by simp) (fun _ h => h)).mono ?_; rintro e w2 ⟨v2, rfl, hr2, hf2⟩; rw [List.nil_append] at hr2; obtain ⟨A2, c2, rfl, hc2, _⟩ := Kd.R_reads hr2; have HR2 := Aside0.mk hr2; clear hc2; have HF2 := Aside0.mk hf2; clear hr2 hf2)
  have HBW2 := Aside0.mk (show Below w.heap.size w w2 from HF2.out.below _ (Nat.le_refl _) (fun b h => h))
  obtain ⟨w3, hw3⟩ : ∃ w3, w3 = w2.alloc (.cells #[.slice A2 (leB (U : Int) 2).length c2] 49) := ⟨_, rfl⟩
  rw [← hw3]
  obtain ⟨B, hB⟩ : ∃ B, B = w2.heap.size := ⟨_, rfl⟩
  obtain ⟨L1, hL1⟩ : ∃ L1, L1 = leB (U : Int) 2 := ⟨_, rfl⟩
  have HL1 := Aside0.mk hL1
  have hl1 : L1.length = 2 := by rw [hL1]; exact leB_length _ _
  have HB := Aside0.mk hB
  have hz3 : w3.heap.size = B + 1 := by rw [hw3, hB]; simp
  have HBW3 := Aside0.mk (show Below w.heap.size w w3 by rw [hw3]; exact below_alloc HBW2.out _)
  have b3 : w3.heap[B]? = some (.cells #[.slice A2 2 c2] 49 (0, 0)) := by rw [hw3, hB, ← hl1, hL1]; exact heap_alloc_new w2 _
  have HR3 := Aside0.mk (show Kd.R (Kd.int .u8) 5 w3 0 (fun b => w.heap.size ≤ b ∧ b ≠ B) (.slice A2 2 c2) L1 by
    have := HR2.out
    rw [← hL1, hl1] at this
    refine R8_keep (w := w2) (R8_ref this (fun b _ h1 h2 => ⟨h2, by omega⟩)) (fun b hb _ => ?_)
    rw [hw3]
    exact heap_alloc_old _ _ hb)
  have HB3 := Aside0.mk b3
  have d1 := blk_cell b3 (i := 0) rfl
  have d2 := bel_cellB HBW3.out HH.out.c1
  have HD3 := Aside0.mk (HH.out.below HBW3.out)
  have hlen := run_lenM (w := w3.drew) (HD3.out.same rfl rfl) 3
  have hcl : IntKind.u64.wrap (bs.length : Int) = bs.length := u64_wrap_of (by omega) (by omega)
  rw [← hL1, hl1, ← hB]
  clear hw3 hB hL1 b3
  obtain ⟨L2, hL2⟩ : ∃ L2, L2 = L1 ++ leB (bs.length : Int) 2 := ⟨_, rfl⟩
  have hl2 : L2.length = 4 := by rw [hL2, List.length_append, hl1, leB_length]
  have HL2 := Aside0.mk (show L2 = encL U bs by rw [hL2, HL1.out]; rfl)
  have hcp := put_row (fun b => w.heap.size ≤ b ∧ b ≠ B) (fun b => w.heap.size ≤ b ∧ b ≠ B) (.slice A2 2 c2) L1 bs.length w3.drew (by omega) (R8_keep HR3.out (fun _ _ _ => rfl)) (by omega) (fun _ h => h) (fun b hb => ⟨Nat.le_trans HBW3.out.size hb, by have h2 : w3.heap.size ≤ b := hb; omega⟩)
  rw [← hL2] at hcp
  have HCP := Aside0.mk hcp
  clear hcp hL2
  refine Ystart_ (m := 12) (S := fun w' => w'.cell? ⟨B, 0, none⟩ = some (.slice A2 2 c2) ∧ w'.cell? ⟨p, 1, none⟩ = some (.map (some s))) (ds := [7, 11]) #[false, false, false, false, false, false, false, false, false, false, false, false] (by kernel_rfl) rfl rfl (fun _ => trivial) (by kernel_rfl) ⟨d1, d2⟩ (fun hHeld => ?_)
  refine Ypure_ (i := 1) (N := some 18) (v := ?_) (a' := ?_) #[false, true, false, false, false, false, false, false, false, false, false, false] rfl rfl (by kernel_rfl) (fun _ _ _ h => h) (Or.inl ⟨by rfl, ?_⟩) ?_ ?_
  rotate_left
  · intro w'
    go_simp
    with_reducible rfl
  rotate_left
  · simp only [Act.put, List.setIfInBounds_toArray, List.set_cons_zero, List.set_cons_succ, i64_w, i32_w]
    rfl
  refine Ypure_ (i := 2) (N := some 19) (v := ?_) (a' := ?_) #[false, true, true, false, false, false, false, false, false, false, false, false] rfl rfl (by kernel_rfl) (fun _ _ _ h => h) (Or.inl ⟨by rfl, ?_⟩) ?_ ?_
  rotate_left
  · intro w'
    go_simp
    with_reducible rfl
  rotate_left
  · simp only [Act.put, List.setIfInBounds_toArray, List.set_cons_zero, List.set_cons_succ, i64_w, i32_w]
    rfl
  refine Ypure_ (i := 3) (N := some 20) (v := ?_) (a' := ?_) #[false, true, true, true, false, false, false, false, false, false, false, false] rfl rfl (by kernel_rfl) (fun _ _ _ h => h) (Or.inl ⟨by rfl, ?_⟩) ?_ ?_
  rotate_left
  · intro w'
    go_simp
    with_reducible rfl
  rotate_left
  · simp only [Act.put, List.setIfInBounds_toArray, List.set_cons_zero, List.set_cons_succ, i64_w, i32_w]
    rfl
  refine Ytake_ (i := 0) (N := some 17) (v := ?_) (a' := ?_) #[true, true, true, true, false, false, false, false, false, false, false, false] rfl rfl (by kernel_rfl) (fun _ _ _ h => h) (Or.inl ⟨by rfl, ?_⟩) hHeld ?_ ?_
  rotate_left
  · rintro w' ⟨s0, s1⟩
    go_simp
    with_reducible rfl
  rotate_left
  · simp only [Act.put, List.setIfInBounds_toArray, List.set_cons_zero, List.set_cons_succ, i64_w, i32_w]
    rfl
  refine Ytake_ (i := 4) (N := some 21) (v := ?_) (a' := ?_) #[true, true, true, true, true, false, false, false, false, false, false, false] rfl rfl (by kernel_rfl) (fun _ _ _ h => h) (Or.inl ⟨by rfl, ?_⟩) hHeld ?_ ?_
  rotate_left
  · rintro w' ⟨s0, s1⟩
    go_simp
    with_reducible rfl
  rotate_left
  · simp only [Act.put, List.setIfInBounds_toArray, List.set_cons_zero, List.set_cons_succ, i64_w, i32_w]
    rfl
  refine Yone_ (i := 5) (N := some 22) #[true, true, true, true, true, true, false, false, false, false, false, false] rfl rfl (by kernel_rfl) (by decide) (fun K hK => ?_)
  refine Yvalue_ (w1 := ?_) (v := ?_) (by rfl) rfl ?_ ?_
  rotate_left 2
  · go_simp
    constructor
    · rfl
    · rfl
  refine hK.out _ _ ⟨hHeld.1, hHeld.2⟩ (fun hHeld => ?_)
  clear hK K
  refine Ynorm_ (a' := ?_) ?_ ?_
  rotate_left
  · show Act.put _ (some 22) _ = _
    simp only [Act.put, List.setIfInBounds_toArray, List.set_cons_zero, List.set_cons_succ, i64_w, i32_w]
    rfl
  refine Ypure_ (i := 6) (N := some 23) (v := ?_) (a' := ?_) #[true, true, true, true, true, true, true, false, false, false, false, false] rfl rfl (by kernel_rfl) (fun _ _ _ h => h) (Or.inl ⟨by rfl, ?_⟩) ?_ ?_
  rotate_left
  · intro w'
    go_simp
    with_reducible rfl
  rotate_left
  · simp only [Act.put, List.setIfInBounds_toArray, List.set_cons_zero, List.set_cons_succ, i64_w, i32_w]
    rfl
  refine Ylast_ (i := 7) (N := some 24) #[true, true, true, true, true, true, true, true, false, false, false, false] rfl rfl (by kernel_rfl) (by decide) (fun K hK => ?_)
  refine Ygoes_ Try.func44 (by kernel_rfl) rfl #[.slice A2 2 c2, .int .i64 2, .int .u64 (bs.length : Int)] (by rfl) rfl rfl (by simp only [List.map_toArray, List.map_cons, List.map_nil]; rfl) (by first | exact .inl rfl | exact .inr ⟨_, rfl⟩) ?_
  with_reducible refine (HCP.out).mono ?_
  rintro e w4 ⟨v4, rfl, hr4, hf4⟩
  refine ⟨_, rfl, ?_⟩
  obtain ⟨A4, c4, rfl, hc4, _⟩ := Kd.R_reads hr4
  rw [hl2] at hr4
  have HR4 := Aside0.mk hr4
  have HF4 := Aside0.mk (show Fr (fun b => w.heap.size ≤ b ∧ b ≠ B) w3 w4 from ((Fr.refl _ w3).drew).trans' hf4)
  clear hr4 hf4 hc4
  have k4 := HF4.out.get HB3.out (fun h => h.2 rfl)
  have d4 := blk_cell k4 (i := 0) rfl
  have f4 := blk_free k4 0
  refine hK.out _ _ ?_
  clear hK K
  refine Ynorm_ (a' := ?_) ?_ ?_
  rotate_left
  · show Act.put _ (some 24) _ = _
    simp only [Act.put, List.setIfInBounds_toArray, List.set_cons_zero, List.set_cons_succ, i64_w, i32_w]
    rfl
  refine Ypure_ (i := 8) (N := some 16) (v := ?_) (a' := ?_) #[true, true, true, true, true, true, true, true, true, false, false, false] rfl rfl (by kernel_rfl) (fun _ _ _ h => h) (Or.inl ⟨by rfl, ?_⟩) ?_ ?_
  rotate_left
  · intro w'
    go_simp
    with_reducible rfl
  rotate_left
  · simp only [Act.put, List.setIfInBounds_toArray, List.set_cons_zero, List.set_cons_succ, i64_w, i32_w]
    rfl
  refine Ypure_ (i := 9) (N := some 25) (v := ?_) (a' := ?_) #[true, true, true, true, true, true, true, true, true, true, false, false] rfl rfl (by kernel_rfl) (fun _ _ _ h => h) (Or.inl ⟨by rfl, ?_⟩) ?_ ?_
  rotate_left
  · intro w'
    go_simp
    with_reducible rfl
  rotate_left
  · simp only [Act.put, List.setIfInBounds_toArray, List.set_cons_zero, List.set_cons_succ, i64_w, i32_w]
    rfl
  refine Ypure_ (i := 10) (N := some 26) (v := ?_) (a' := ?_) #[true, true, true, true, true, true, true, true, true, true, true, false] rfl rfl (by kernel_rfl) (fun _ _ _ h => h) (Or.inl ⟨by rfl, ?_⟩) ?_ ?_
  rotate_left
  · intro w'
    go_simp
    with_reducible rfl
  rotate_left
  · simp only [Act.put, List.setIfInBounds_toArray, List.set_cons_zero, List.set_cons_succ, i64_w, i32_w]
    rfl
  refine Ylast_ (i := 11) (N := none) #[true, true, true, true, true, true, true, true, true, true, true, true] rfl rfl (by kernel_rfl) (by decide) (fun K hK => ?_)
  refine Yskip_ (w1 := ?_) (by rfl) rfl ?_ ?_
  rotate_left
  · go_simp
    rfl
  refine hK.out _ _ ?_
  clear hK K
  refine Ydone_ (by kernel_rfl) ?_
  obtain ⟨w5, hw5⟩ : ∃ w5, w5 = w4.setCell ⟨B, 0, none⟩ (.slice A4 4 c4) := ⟨_, rfl⟩
  rw [hl2, ← hw5]
  have HF5 := Aside0.mk (show Fr (fun b => w.heap.size ≤ b) w3 w5 from by rw [hw5]; exact (HF4.out.mono (fun b h => h.1)).setCell (.inl (by rw [HB.out]; exact HBW2.out.size)) _)
  have HBW5 := Aside0.mk (show Below w.heap.size w w5 from HBW3.out.trans (HF5.out.below _ HBW3.out.size (fun b h => h)))
  have HB5 := Aside0.mk (show w5.heap[B]? = some (.cells #[.slice A4 4 c4] 49 (0, 0)) by rw [hw5]; have := blk_set k4 0 (.slice A4 4 c4); simpa using this)
  have HR5 := Aside0.mk (show Kd.R (Kd.int .u8) 5 w5 0 (fun b => w.heap.size ≤ b ∧ b ≠ B) (.slice A4 4 c4) L2 by
    refine R8_keep HR4.out (fun b hb h => ?_)
    rw [hw5]
    exact Below.heap_setCell _ _ _ _ h.2)
  clear hw5 k4 d4 f4 hHeld d1 d2 hlen hcl hz3
  gi_wp2_with (gi_at_call 13; refine (cE _).mono ?_; rintro e w' ⟨rfl, rfl⟩)
  clear cE hfE cP
  obtain ⟨X, hX⟩ : ∃ X, X = w5.heap.size := ⟨_, rfl⟩
  obtain ⟨w6, hw6⟩ : ∃ w6, w6 = w5.alloc (.cells #[.pointer (some ⟨p, 0, none⟩)] 23) := ⟨_, rfl⟩
  rw [← hw6]
  have hz6 : w6.heap.size = X + 1 := by rw [hw6, hX]; simp
  have HZ := Aside0.mk hz6
  have HBW := Aside0.mk (show Below w.heap.size w w6 by rw [hw6]; exact below_alloc HBW5.out _)
  have hBX : B < X := by rw [hX]; exact blk_lt HB5.out
  have hBN : w.heap.size ≤ B := by rw [HB.out]; exact HBW2.out.size
  have HB6 := Aside0.mk (show w6.heap[B]? = some (.cells #[.slice A4 4 c4] 49 (0, 0)) by rw [hw6]; exact old_blk HB5.out _)
  have HR6 := Aside0.mk (show Kd.R (Kd.int .u8) 5 w6 0 (fun b => w.heap.size ≤ b ∧ b < X ∧ b ≠ B) (.slice A4 4 c4) L2 by
    refine R8_keep (w := w5) (R8_ref HR5.out (fun b _ h1 h2 => ⟨h2.1, by omega, h2.2⟩)) (fun b hb _ => ?_)
    rw [hw6]
    exact heap_alloc_old _ _ hb)
  have hb6 : w6.heap[X]? = some (.cells #[.pointer (some ⟨p, 0, none⟩)] 23 (0, 0)) := by rw [hw6, hX]; exact heap_alloc_new w5 _
  have hseq := each_seq w6 X p s U bs (HH.out.below HBW.out) (blk_cell hb6 rfl)
  rw [← hX]
  obtain ⟨N, hN⟩ : ∃ N, N = w.heap.size := ⟨_, rfl⟩
  have HN := Aside0.mk hN
  rw [← hN] at hBN
  rw [← hN] at HR6
  have hps : p < N ∧ s < N := by rw [hN]; exact ⟨HH.out.p_lt, HH.out.s_lt⟩
  obtain ⟨hp1, hs1⟩ := hps
  have HBWN := Aside0.mk (show Below N w w6 by rw [hN]; exact HBW.out)
  clear hw6 hX hb6 hN
  refine range_listA itG (xs := bs) (enc := encP) rfl (enters_of Try.func29 (by kernel_rfl) rfl) hseq (Below.refl _ _) (fun b hb => ?_) (fun _ => rfl)
    (fun W' => ∃ A c, W'.heap[B]? = some (.cells #[.slice A 4 c] 49 (0, 0)) ∧ Kd.R (Kd.int .u8) 5 W' 0 (fun b => N ≤ b ∧ b < X ∧ b ≠ B) (.slice A 4 c) L2 ∧ Below N w W')
    (EncI N X B w L2 bs) (fun _ _ _ _ => False) ?hI0 ?hI ?hIx ?hstart ?h0 ?a1 ?assign ?body ?done ?stop
  · rcases hb with rfl | rfl | rfl <;> omega
  case hI0 =>
    rintro P Q hA ⟨A, c, h1, h2, h3⟩ hg
    have hg2 := itG.below hA hg
    rw [hz6] at hg2
    exact ⟨A, c, (hg2.block _ (by omega)).trans h1, R8_keep h2 (fun b hb h => hg2.block b (by omega)), h3.trans (hg2.mono (by omega))⟩
  case hI =>
    rintro M k P Q hA ⟨⟨A, c, h1, h2, h3⟩⟩ hg
    refine ⟨?_⟩
    have hg2 := itG.below hA hg
    rw [hz6] at hg2
    exact ⟨A, c, (hg2.block _ (by omega)).trans h1, R8_itg h2 hg, h3.trans (hg2.mono (by omega))⟩
  case hIx => intro c M k P Q hA h; exact h.elim
  case hstart =>
    rintro M W' h1 h2 ⟨A, c, h3, h4, h5⟩
    refine ⟨⟨A, c, h3, ?_, h5⟩⟩
    rw [List.take_zero, show encG [] = [] from rfl, List.append_nil]
    exact Kd.R_mono h4 (fun b hb => .inl hb)
  case h0 => exact ⟨A4, c4, HB6.out, HR6.out, HBWN.out⟩
  case assign =>
    intro l' x W' K hK
    simp only [encP]
    gi_wp2
    exact hK
  case body =>
    rintro l' M k ⟨a, n⟩ W' hx hM hMW ⟨⟨A, c, h1, h2, h3⟩⟩
    rw [hz6] at hM
    have hq := chain_mem HH.out.ok (a, n) (List.mem_of_getElem? hx)
    simp only at hq
    have hkl : k < bs.length := (List.getElem?_eq_some_iff.1 hx).1
    have HX := Aside0.mk (show encG (bs.take (k + 1)) = (encG (bs.take k) ++ leB (a : Int) 2) ++ leB (n : Int) 2 by rw [take_snoc hx, encG_snoc])
    have hgl : (encG (bs.take k)).length = 4 * k := by rw [encG_length, List.length_take]; omega
    obtain ⟨nk, hnk⟩ : ∃ nk, nk = 4 + 4 * k := ⟨_, rfl⟩
    have HNK := Aside0.mk hnk
    obtain ⟨L, hL⟩ : ∃ L, L = L2 ++ encG (bs.take k) := ⟨_, rfl⟩
    have HL := Aside0.mk hL
    have hll : L.length = nk := by rw [hL, List.length_append, hl2, hgl, hnk]
    rw [← hnk] at h1 h2
    rw [← hL] at h2
    have hnk5 : nk ≤ 4100 := by omega
    have la : (L ++ leB (a : Int) 2).length = nk + 2 := by rw [List.length_append, hll, leB_length]
    have lb : ((L ++ leB (a : Int) 2) ++ leB (n : Int) 2).length = nk + 4 := by rw [List.length_append, la, leB_length]
    obtain ⟨T, hT⟩ : ∃ T : Nat → Prop, T = fun b => N ≤ b ∧ b < X ∧ b ≠ B ∨ M ≤ b := ⟨_, rfl⟩
    have HT := Aside0.mk hT
    rw [← hT] at h2
    have HTB := Aside0.mk (show ¬ T B by rw [hT]; rintro (h | h); exact h.2.2 rfl; omega)
    have HTN := Aside0.mk (show ∀ b, M ≤ b → T b by intro b hb; rw [hT]; exact .inr hb)
    have hp1 := put_row T T (.slice A nk c) L a W' (by omega) h2 (by omega) (fun _ h => h) (fun b hb => HTN.out b (by omega))
    have HP1 := Aside0.mk (CallsIn.inRound l' (callsIn_wide (n := 12).2 hp1))
    have ce := blk_cell h1 (i := 0) rfl
    have H1 := Aside0.mk h1
    have H3 := Aside0.mk h3
    have HM := Aside0.mk hM
    have HMW := Aside0.mk hMW
    have hca : IntKind.u64.wrap (a : Int) = a := u64_wrap_of (by omega) (by omega)
    have hcn : IntKind.u64.wrap (n : Int) = n := u64_wrap_of (by omega) (by omega)
    have hfP2 : (Fence.wide.inRound l').fn 44 := trivial
    clear hx hgl hnk hL hT h1 h2 h3 hM hMW hp1 hseq
    gi_wp2_with (gi_at_call 44; refine HP1.out.mono ?_; clear HP1; rintro e wa ⟨va, rfl, hra, hfa⟩; obtain ⟨Aa, ca, rfl, _, _⟩ := Kd.R_reads hra; rw [la] at hra; have HRA := Aside0.mk hra; have HFA := Aside0.mk hfa; clear hra hfa; have ka := HFA.out.get H1.out HTB.out; have da := blk_cell ka (i := 0) rfl; have fa := blk_free ka 0; have KA := Aside0.mk ka; clear ka)
    obtain ⟨wb, hwb⟩ : ∃ wb, wb = wa.setCell ⟨B, 0, none⟩ (.slice Aa (nk + 2) ca) := ⟨_, rfl⟩
    rw [← hwb]
    have HFB := Aside0.mk (show Fr (fun b => T b ∨ b = B) W' wb from by rw [hwb]; exact (HFA.out.mono (fun b h => .inl h)).setCell (.inl (.inr rfl)) _)
    have HKB := Aside0.mk (show wb.heap[B]? = some (.cells #[.slice Aa (nk + 2) ca] 49 (0, 0)) by rw [hwb]; have := blk_set KA.out 0 (.slice Aa (nk + 2) ca); simpa using this)
    have HRB := Aside0.mk (show Kd.R (Kd.int .u8) 5 wb 0 T (.slice Aa (nk + 2) ca) (L ++ leB (a : Int) 2) by
      refine R8_keep HRA.out (fun b hb h => ?_)
      rw [hwb]
      exact Below.heap_setCell _ _ _ _ (fun e => HTB.out (by have e : b = B := e; rw [← e]; exact h)))
    clear hwb da fa
    have hsz := Nat.le_trans HMW.out HFB.out.size
    have hp2 := put_row T T (.slice Aa (nk + 2) ca) (L ++ leB (a : Int) 2) n wb (by omega) HRB.out (by omega) (fun _ h => h) (fun b hb => HTN.out b (by omega))
    refine (CallsIn.inRound l' (callsIn_wide (n := 12).2 hp2)).mono ?_
    clear hp2 hsz
    rintro e wc ⟨vc, rfl, hrc, hfc⟩
    obtain ⟨Ac, cc, rfl, _, _⟩ := Kd.R_reads hrc
    rw [lb] at hrc
    have HRC := Aside0.mk hrc
    have HFC := Aside0.mk hfc
    have kc := hfc.get HKB.out HTB.out
    have dc := blk_cell kc (i := 0) rfl
    have fc := blk_free kc 0
    have KC := Aside0.mk kc
    clear hrc hfc kc
    rw [lb]
    gi_wp2
    obtain ⟨V, hV⟩ : ∃ V, V = wc.setCell ⟨B, 0, none⟩ (.slice Ac (nk + 4) cc) := ⟨_, rfl⟩
    rw [← hV]
    have HFV := Aside0.mk (show Fr (fun b => T b ∨ b = B) W' V from by rw [hV]; exact (HFB.out.trans (HFC.out.mono (fun b h => .inl h)) (fun b h _ => h)).setCell (.inl (.inr rfl)) _)
    have hTx := HT.out
    refine ⟨KeepI.of_fr HFV.out (fun b hb ht hc => ?_), ⟨Ac, cc, ?_, ?_, ?_⟩⟩
    · have hz := HZ.out
      have hm2 := HM.out
      rw [hTx] at ht
      rcases hc with hc | hc
      · rcases ht with (ht | ht) | rfl <;> omega
      · rcases hc with rfl | rfl | rfl
        · rcases ht with (ht | ht) | ht <;> omega
        · rcases ht with (ht | ht) | ht <;> omega
        · rcases ht with (ht | ht) | ht <;> omega
    · have := blk_set KC.out 0 (.slice Ac (nk + 4) cc)
      rw [hV, show 4 + 4 * (k + 1) = nk + 4 by have := HNK.out; omega]
      simpa using this
    · rw [HX.out, show 4 + 4 * (k + 1) = nk + 4 by have := HNK.out; omega, ← List.append_assoc, ← List.append_assoc, ← HL.out, ← hTx]
      refine R8_keep HRC.out (fun b hb h => ?_)
      rw [hV]
      exact Below.heap_setCell _ _ _ _ (fun e => HTB.out (by have e : b = B := e; rw [← e]; exact h))
    · refine H3.out.trans (HFV.out.below N (by have := HMW.out; have := HM.out; omega) (fun b hb => ?_))
      rw [hTx] at hb
      have := HM.out
      rcases hb with (hb | hb) | hb <;> omega
  case done =>
    rintro M W' hM hMW ⟨⟨A, c, h1, h2, h3⟩⟩ hD
    rw [hz6] at hM
    rw [List.take_length, HL2.out] at h2
    have ce := blk_cell h1 (i := 0) rfl
    have HR := Aside0.mk h2
    have H3 := Aside0.mk h3
    have HD := Aside0.mk hD
    have hz := HZ.out
    have HMX := Aside0.mk hM
    clear hseq h1 h2 h3 hD hM
    gi_wp2
    refine ⟨by simp, .inl ⟨_, _, rfl, run_takeDeferred HD.out, ?_⟩⟩
    refine ⟨_, results_tmp rfl _ _ _, ⟨_, rfl, ?_, ?_⟩⟩
    · rw [← HN.out]
      have hg : ItG N W' (W'.putObj w6.heap.size (.deferred none)) := itG.put (by omega) HD.out rfl
      refine R8_itg (R8_ref HR.out (fun b _ _ h => ?_)) hg
      rcases h with h | h
      · exact h.1
      · have := HMX.out; omega
    · rw [← HN.out]
      exact H3.out.trans (itB.put (by omega) HD.out rfl)
  case stop => intro c M k W' _ _ _ h; exact h.elim
end Go.Proofs.Ytgendnoafemgpaa.Hand
