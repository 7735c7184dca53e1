/- What a claim needs of the walks and contracts, part 2. -/
import Derived.ProofKit
import Derived.OpenShut
import Derived.Test.YtgendnoafemgpaaProg
import Derived.Below
import Derived.Deep.Draws
import Derived.Deep.AppendLies
import Derived.Maps.AppendAt
import Derived.OwnWalk
import Derived.Laws.BytesArg
import Derived.Laws.MakeOwn
import Derived.Laws.OwnMore
import Derived.Deep.OwnRows
import Derived.Tactics
import Derived.Lib.ConvBytes
import Derived.Laws.Slices
import Derived.WalkKit
import Derived.KernelRfl
import Derived.RowKit3
import Derived.Deep.LoopGhost
import Derived.Deep.QuietTactic
import Derived.BigQuiet
import Derived.WideLaws
import Derived.Deep.DeepCutAuto
import Derived.Deep.CutBlock
import Derived.Deep.RegionHeld3
import Derived.Laws.Rows
import Derived.Lib.AppendStr
import Derived.ArgAppend
import Derived.Laws.IdiomCopy
import Derived.OrdersHeld
import Derived.Laws.BitsLemmas
import Derived.RowKit
import Derived.Test.YtgendnoafemgpaaWWords
import Derived.Test.YtgendnoafemgpaaWLast
import Derived.Test.YtgendnoafemgpaaWTab
import Derived.Test.YtgendnoafemgpaaWFour
import Derived.Test.YtgendnoafemgpaaWQPut
import Derived.Test.YtgendnoafemgpaaWApart
import Derived.Test.YtgendnoafemgpaaWArr
import Derived.Test.YtgendnoafemgpaaWZeros
import Derived.Test.YtgendnoafemgpaaWFoot
import Derived.Test.YtgendnoafemgpaaWKept
import Derived.Test.YtgendnoafemgpaaWShare
import Derived.Test.YtgendnoafemgpaaWN
import Derived.Test.YtgendnoafemgpaaWFootNe
import Derived.Test.YtgendnoafemgpaaWAt
import Derived.Test.YtgendnoafemgpaaWEqStruct
import Derived.Test.YtgendnoafemgpaaWRepsOne
import Derived.Test.YtgendnoafemgpaaWInv
import Derived.Test.YtgendnoafemgpaaWInvWords
import Derived.Test.YtgendnoafemgpaaWGuard
import Derived.Test.YtgendnoafemgpaaWNEv
import Derived.Test.YtgendnoafemgpaaWMore
import Derived.Deep.Slices
import Derived.ChangeSame
import Derived.Lib.SmallJoins
import Derived.Deep.Strs
import Derived.Test.YtgendnoafemgpaaHandV1
namespace Go.Proofs.Ytgendnoafemgpaa.Hand
attribute [local go_sem] Oper.semAt_some
open Go.RowKit Go.Maps Go.Sort Go.Shelf Go.Proofs.YtgendnoafemgpaaW.PrintWords Go.Proofs.YtgendnoafemgpaaW.PrintLast
set_option linter.unusedVariables false
set_option linter.unusedSimpArgs false
def claimP (at_ n : Nat) (g : Pc) : Bool := decide (g.1 ≤ at_ ∧ at_ + n ≤ g.1 + g.2)
def ClaimOut (w : World) (p s U : Nat) (bs : List Pc) (at_ n : Nat) (e : Ending) (w' : World) : Prop :=
  match (gaps 0 bs U).find? (claimP at_ n) with
  | none => e = .returned (.int .i64 100) ∧ HasB w' p s U bs ∧ Fr (fun b => b = s) w w'
  | some g => e = .returned (.int .i64 0) ∧ HasB w' p s U (ins at_ n bs) ∧ Fr (fun b => b = s) w w'
set_option maxRecDepth 100000 in
set_option maxHeartbeats 4000000 in
theorem claim_calls (w : World) (p s U : Nat) (bs : List Pc) (h : HasB w p s U bs) (a n : Nat) (hn : 1 ≤ n) (han : a + n ≤ U) : Calls Try.prog 22 #[.pointer (some ⟨p, 0, none⟩), .int .i64 (a : Int), .int .i64 (n : Int)] w (ClaimOut w p s U bs a n) := by
  have HH := Aside0.mk h
  have cU := h.c0
  have hmU := h.max
  have hwi : IntKind.i64.wrap ((U : Int) - n) = (U : Int) - n := IntWalk.i64_in _ (by omega)
  have cH := fun (w : World) => callsIn_wide (n := 14).2 (holes_calls w p)
  have hfH : Fence.wide.fn 32 := trivial
  obtain ⟨gs, hgs⟩ : ∃ gs, gs = gaps 0 bs U := ⟨_, rfl⟩
  have HG := Aside0.mk hgs
  obtain ⟨Po, hPo⟩ : ∃ Po, Po = ClaimOut w p s U bs a n := ⟨_, rfl⟩
  have HPO := Aside0.mk hPo
  rw [← hPo]
  clear h hgs hPo
  refine (callsIn_wide (n := 15)).1 ?_
  refine callsIn_of_wp_marks Try.func22 rfl trivial ?_ rfl
  simp only [Try.ntmps22, List.size_toArray, List.length_cons, List.length_nil, Nat.reduceAdd, Nat.reduceSub, Array.replicate_succ, Array.replicate_zero, List.push_toArray, List.append_toArray, List.nil_append, List.cons_append]
  gi_wp2
  obtain ⟨w0, hw0⟩ : ∃ w0, w0 = ((((w.alloc (.cells #[.pointer (some ⟨p, 0, none⟩)] 23)).alloc (.cells #[.int .i64 (a : Int)] 3)).alloc (.cells #[.int .i64 (n : Int)] 3)).alloc (.cells #[.int .i64 0] 24)) := ⟨_, rfl⟩
  rw [← hw0]
  obtain ⟨N, hN⟩ : ∃ N, N = w.heap.size := ⟨_, rfl⟩
  have HN := Aside0.mk hN
  have hz0 : w0.heap.size = N + 4 := by rw [hw0, hN]; simp
  have HBW0 := Aside0.mk (show Below w.heap.size w w0 by rw [hw0]; exact below_alloc (below_alloc (below_alloc (below_alloc (Below.refl _ _) _) _) _) _)
  have b0 : w0.heap[N]? = some (.cells #[.pointer (some ⟨p, 0, none⟩)] 23 (0, 0)) := by rw [hw0, hN]; exact old_blk (old_blk (old_blk (heap_alloc_new w _) _) _) _
  have b1 : w0.heap[N + 1]? = some (.cells #[.int .i64 (a : Int)] 3 (0, 0)) := by rw [hw0, hN]; exact old_blk (old_blk (alloc_two w _ _) _) _
  have b2 : w0.heap[N + 2]? = some (.cells #[.int .i64 (n : Int)] 3 (0, 0)) := by rw [hw0, hN]; exact old_blk (alloc_three w _ _ _) _
  have b3 : w0.heap[N + 3]? = some (.cells #[.int .i64 0] 24 (0, 0)) := by
    rw [hw0, hN]
    have := alloc_two ((w.alloc (.cells #[.pointer (some ⟨p, 0, none⟩)] 23)).alloc (.cells #[.int .i64 (a : Int)] 3)) (.cells #[.int .i64 (n : Int)] 3) (.cells #[.int .i64 0] 24)
    simpa using this
  have c0 := blk_cell b0 (i := 0) rfl
  have c1 := blk_cell b1 (i := 0) rfl
  have c2 := blk_cell b2 (i := 0) rfl
  have cp := bel_cellB HBW0.out cU
  have hb0 : decide ((n : Int) < 1) = false := by simp; omega
  have hb1 : decide ((a : Int) < 0) = false := by simp
  have hb2 : decide ((U : Int) < (n : Int)) = false := by simp; omega
  have hb2' : decide (U < n) = false := by simp; omega
  have hb4 : ¬ (U < n) := by omega
  have hb3 : decide ((U : Int) - (n : Int) < (a : Int)) = false := by simp; omega
  clear hw0
  rw [← hN]
  clear hN
  refine Ystart_ (m := 24) (S := fun w' => w'.cell? ⟨N, 0, none⟩ = some (.pointer (some ⟨p, 0, none⟩)) ∧ w'.cell? ⟨N + 1, 0, none⟩ = some (.int .i64 (a : Int)) ∧ w'.cell? ⟨N + 2, 0, none⟩ = some (.int .i64 (n : Int)) ∧ w'.cell? ⟨p, 0, none⟩ = some (.int .i64 (U : Int))) (ds := []) #[false, false, false, false, false, false, false, false, false, false, false, false, false, false, false, false, false, false, false, false, false, false, false, false] (by kernel_rfl) rfl rfl (fun _ => trivial) (by kernel_rfl) ⟨c0, c1, c2, cp⟩ (fun hHeld => ?_)
  refine Ytake_ (i := 0) (N := some 9) (v := ?_) (a' := ?_) #[true, false, false, false, false, false, false, false, false, false, false, false, false, false, false, false, false, false, false, false, false, false, false, false] rfl rfl (by kernel_rfl) (fun _ _ _ h => h) (Or.inl ⟨by rfl, ?_⟩) hHeld ?_ ?_
  rotate_left
  · rintro w' ⟨s0, s1, s2, s3⟩
    go_simp
    with_reducible rfl
  rotate_left
  · simp only [Act.put, List.setIfInBounds_toArray, List.set_cons_zero, List.set_cons_succ, i64_w, i32_w]
    rfl
  refine Ypure_ (i := 1) (N := some 10) (v := ?_) (a' := ?_) #[true, true, false, false, false, false, false, false, false, false, false, false, false, false, false, false, false, false, false, false, false, false, false, false] rfl rfl (by kernel_rfl) (fun _ _ _ h => h) (Or.inl ⟨by rfl, ?_⟩) ?_ ?_
  rotate_left
  · intro w'
    go_simp
    with_reducible rfl
  rotate_left
  · simp only [Act.put, List.setIfInBounds_toArray, List.set_cons_zero, List.set_cons_succ, i64_w, i32_w]
    rfl
  refine Ypure_ (i := 2) (N := some 11) (v := ?_) (a' := ?_) #[true, true, true, false, false, false, false, false, false, false, false, false, false, false, false, false, false, false, false, false, false, false, false, false] rfl rfl (by kernel_rfl) (fun _ _ _ h => h) (Or.inl ⟨by rfl, ?_⟩) ?_ ?_
  rotate_left
  · intro w'
    go_simp
    with_reducible rfl
  rotate_left
  · simp only [Act.put, List.setIfInBounds_toArray, List.set_cons_zero, List.set_cons_succ, i64_w, i32_w]
    rfl
  refine Ytake_ (i := 3) (N := some 12) (v := ?_) (a' := ?_) #[true, true, true, true, false, false, false, false, false, false, false, false, false, false, false, false, false, false, false, false, false, false, false, false] rfl rfl (by kernel_rfl) (fun _ _ _ h => h) (Or.inl ⟨by rfl, ?_⟩) hHeld ?_ ?_
  rotate_left
  · rintro w' ⟨s0, s1, s2, s3⟩
    go_simp
    with_reducible rfl
  rotate_left
  · simp only [Act.put, List.setIfInBounds_toArray, List.set_cons_zero, List.set_cons_succ, i64_w, i32_w]
    rfl
  refine Ypure_ (i := 4) (N := some 13) (v := ?_) (a' := ?_) #[true, true, true, true, true, false, false, false, false, false, false, false, false, false, false, false, false, false, false, false, false, false, false, false] rfl rfl (by kernel_rfl) (fun _ _ _ h => h) (Or.inl ⟨by rfl, ?_⟩) ?_ ?_
  rotate_left
  · intro w'
    go_simp
    with_reducible rfl
  rotate_left
  · simp only [Act.put, List.setIfInBounds_toArray, List.set_cons_zero, List.set_cons_succ, i64_w, i32_w]
    rfl
  refine Ypure_ (i := 5) (N := some 14) (v := ?_) (a' := ?_) #[true, true, true, true, true, true, false, false, false, false, false, false, false, false, false, false, false, false, false, false, false, false, false, false] rfl rfl (by kernel_rfl) (fun _ _ _ h => h) (Or.inl ⟨by rfl, ?_⟩) ?_ ?_
  rotate_left
  · intro w'
    go_simp
    with_reducible rfl
  rotate_left
  · simp only [Act.put, List.setIfInBounds_toArray, List.set_cons_zero, List.set_cons_succ, i64_w, i32_w]
    rfl
  refine Ypure_ (i := 6) (N := some 15) (v := ?_) (a' := ?_) #[true, true, true, true, true, true, true, false, false, false, false, false, false, false, false, false, false, false, false, false, false, false, false, false] rfl rfl (by kernel_rfl) (fun _ _ _ h => h) (Or.inl ⟨by rfl, ?_⟩) ?_ ?_
  rotate_left
  · intro w'
    go_simp
    with_reducible rfl
  rotate_left
  · simp only [Act.put, List.setIfInBounds_toArray, List.set_cons_zero, List.set_cons_succ, i64_w, i32_w]
    rfl
  refine Ytake_ (i := 7) (N := some 16) (v := ?_) (a' := ?_) #[true, true, true, true, true, true, true, true, false, false, false, false, false, false, false, false, false, false, false, false, false, false, false, false] rfl rfl (by kernel_rfl) (fun _ _ _ h => h) (Or.inl ⟨by rfl, ?_⟩) hHeld ?_ ?_
  rotate_left
  · rintro w' ⟨s0, s1, s2, s3⟩
    go_simp
    with_reducible rfl
  rotate_left
  · simp only [Act.put, List.setIfInBounds_toArray, List.set_cons_zero, List.set_cons_succ, i64_w, i32_w]
    rfl
  refine Ytake_ (i := 8) (N := some 17) (v := ?_) (a' := ?_) #[true, true, true, true, true, true, true, true, true, false, false, false, false, false, false, false, false, false, false, false, false, false, false, false] rfl rfl (by kernel_rfl) (fun _ _ _ h => h) (Or.inl ⟨by rfl, ?_⟩) hHeld ?_ ?_
  rotate_left
  · rintro w' ⟨s0, s1, s2, s3⟩
    go_simp
    with_reducible rfl
  rotate_left
  · simp only [Act.put, List.setIfInBounds_toArray, List.set_cons_zero, List.set_cons_succ, i64_w, i32_w]
    rfl
  refine Ypure_ (i := 9) (N := some 18) (v := ?_) (a' := ?_) #[true, true, true, true, true, true, true, true, true, true, false, false, false, false, false, false, false, false, false, false, false, false, false, false] rfl rfl (by kernel_rfl) (fun _ _ _ h => h) (Or.inl ⟨by rfl, ?_⟩) ?_ ?_
  rotate_left
  · intro w'
    go_simp
    with_reducible rfl
  rotate_left
  · simp only [Act.put, List.setIfInBounds_toArray, List.set_cons_zero, List.set_cons_succ, i64_w, i32_w]
    rfl
  refine Ypure_ (i := 10) (N := some 19) (v := ?_) (a' := ?_) #[true, true, true, true, true, true, true, true, true, true, true, false, false, false, false, false, false, false, false, false, false, false, false, false] rfl rfl (by kernel_rfl) (fun _ _ _ h => h) (Or.inl ⟨by rfl, ?_⟩) ?_ ?_
  rotate_left
  · intro w'
    go_simp
    with_reducible rfl
  rotate_left
  · simp only [Act.put, List.setIfInBounds_toArray, List.set_cons_zero, List.set_cons_succ, i64_w, i32_w]
    rfl
  refine Ytake_ (i := 11) (N := some 20) (v := ?_) (a' := ?_) #[true, true, true, true, true, true, true, true, true, true, true, true, false, false, false, false, false, false, false, false, false, false, false, false] rfl rfl (by kernel_rfl) (fun _ _ _ h => h) (Or.inl ⟨by rfl, ?_⟩) hHeld ?_ ?_
  rotate_left
  · rintro w' ⟨s0, s1, s2, s3⟩
    go_simp
    with_reducible rfl
  rotate_left
  · simp only [Act.put, List.setIfInBounds_toArray, List.set_cons_zero, List.set_cons_succ, i64_w, i32_w]
    rfl
  refine Ypure_ (i := 12) (N := some 21) (v := ?_) (a' := ?_) #[true, true, true, true, true, true, true, true, true, true, true, true, true, false, false, false, false, false, false, false, false, false, false, false] rfl rfl (by kernel_rfl) (fun _ _ _ h => h) (Or.inl ⟨by rfl, ?_⟩) ?_ ?_
  rotate_left
  · intro w'
    go_simp
    with_reducible rfl
  rotate_left
  · simp only [Act.put, List.setIfInBounds_toArray, List.set_cons_zero, List.set_cons_succ, i64_w, i32_w]
    rfl
  refine Ypure_ (i := 13) (N := some 22) (v := ?_) (a' := ?_) #[true, true, true, true, true, true, true, true, true, true, true, true, true, true, false, false, false, false, false, false, false, false, false, false] rfl rfl (by kernel_rfl) (fun _ _ _ h => h) (Or.inl ⟨by rfl, ?_⟩) ?_ ?_
  rotate_left
  · intro w'
    go_simp
    with_reducible rfl
  rotate_left
  · simp only [Act.put, List.setIfInBounds_toArray, List.set_cons_zero, List.set_cons_succ, i64_w, i32_w]
    rfl
  refine Ypure_ (i := 14) (N := some 23) (v := ?_) (a' := ?_) #[true, true, true, true, true, true, true, true, true, true, true, true, true, true, true, false, false, false, false, false, false, false, false, false] rfl rfl (by kernel_rfl) (fun _ _ _ h => h) (Or.inl ⟨by rfl, ?_⟩) ?_ ?_
  rotate_left
  · intro w'
    go_simp
    with_reducible rfl
  rotate_left
  · simp only [Act.put, List.setIfInBounds_toArray, List.set_cons_zero, List.set_cons_succ, i64_w, i32_w]
    rfl
  refine Ytake_ (i := 15) (N := some 24) (v := ?_) (a' := ?_) #[true, true, true, true, true, true, true, true, true, true, true, true, true, true, true, true, false, false, false, false, false, false, false, false] rfl rfl (by kernel_rfl) (fun _ _ _ h => h) (Or.inl ⟨by rfl, ?_⟩) hHeld ?_ ?_
  rotate_left
  · rintro w' ⟨s0, s1, s2, s3⟩
    go_simp
    with_reducible rfl
  rotate_left
  · simp only [Act.put, List.setIfInBounds_toArray, List.set_cons_zero, List.set_cons_succ, i64_w, i32_w]
    rfl
  refine Ytake_ (i := 16) (N := some 25) (v := ?_) (a' := ?_) #[true, true, true, true, true, true, true, true, true, true, true, true, true, true, true, true, true, false, false, false, false, false, false, false] rfl rfl (by kernel_rfl) (fun _ _ _ h => h) (Or.inl ⟨by rfl, ?_⟩) hHeld ?_ ?_
  rotate_left
  · rintro w' ⟨s0, s1, s2, s3⟩
    go_simp
    with_reducible rfl
  rotate_left
  · simp only [Act.put, List.setIfInBounds_toArray, List.set_cons_zero, List.set_cons_succ, i64_w, i32_w]
    rfl
  refine Ypure_ (i := 17) (N := some 26) (v := ?_) (a' := ?_) #[true, true, true, true, true, true, true, true, true, true, true, true, true, true, true, true, true, true, false, false, false, false, false, false] rfl rfl (by kernel_rfl) (fun _ _ _ h => h) (Or.inl ⟨by rfl, ?_⟩) ?_ ?_
  rotate_left
  · intro w'
    go_simp
    with_reducible rfl
  rotate_left
  · simp only [Act.put, List.setIfInBounds_toArray, List.set_cons_zero, List.set_cons_succ, i64_w, i32_w]
    rfl
  refine Ypure_ (i := 18) (N := some 27) (v := ?_) (a' := ?_) #[true, true, true, true, true, true, true, true, true, true, true, true, true, true, true, true, true, true, true, false, false, false, false, false] rfl rfl (by kernel_rfl) (fun _ _ _ h => h) (Or.inl ⟨by rfl, ?_⟩) ?_ ?_
  rotate_left
  · intro w'
    go_simp
    with_reducible rfl
  rotate_left
  · simp only [Act.put, List.setIfInBounds_toArray, List.set_cons_zero, List.set_cons_succ, i64_w, i32_w]
    rfl
  refine Ytake_ (i := 19) (N := some 28) (v := ?_) (a' := ?_) #[true, true, true, true, true, true, true, true, true, true, true, true, true, true, true, true, true, true, true, true, false, false, false, false] rfl rfl (by kernel_rfl) (fun _ _ _ h => h) (Or.inl ⟨by rfl, ?_⟩) hHeld ?_ ?_
  rotate_left
  · rintro w' ⟨s0, s1, s2, s3⟩
    go_simp
    with_reducible rfl
  rotate_left
  · simp only [Act.put, List.setIfInBounds_toArray, List.set_cons_zero, List.set_cons_succ, i64_w, i32_w]
    rfl
  refine Ytake_ (i := 20) (N := some 29) (v := ?_) (a' := ?_) #[true, true, true, true, true, true, true, true, true, true, true, true, true, true, true, true, true, true, true, true, true, false, false, false] rfl rfl (by kernel_rfl) (fun _ _ _ h => h) (Or.inl ⟨by rfl, ?_⟩) hHeld ?_ ?_
  rotate_left
  · rintro w' ⟨s0, s1, s2, s3⟩
    go_simp
    with_reducible rfl
  rotate_left
  · simp only [Act.put, List.setIfInBounds_toArray, List.set_cons_zero, List.set_cons_succ, i64_w, i32_w]
    rfl
  refine Ypure_ (i := 21) (N := some 30) (v := ?_) (a' := ?_) #[true, true, true, true, true, true, true, true, true, true, true, true, true, true, true, true, true, true, true, true, true, true, false, false] rfl rfl (by kernel_rfl) (fun _ _ _ h => h) (Or.inl ⟨by rfl, ?_⟩) ?_ ?_
  rotate_left
  · intro w'
    go_simp
    with_reducible rfl
  rotate_left
  · simp only [Act.put, List.setIfInBounds_toArray, List.set_cons_zero, List.set_cons_succ, i64_w, i32_w]
    rfl
  refine Ypure_ (i := 22) (N := some 31) (v := ?_) (a' := ?_) #[true, true, true, true, true, true, true, true, true, true, true, true, true, true, true, true, true, true, true, true, true, true, true, false] rfl rfl (by kernel_rfl) (fun _ _ _ h => h) (Or.inl ⟨by rfl, ?_⟩) ?_ ?_
  rotate_left
  · intro w'
    go_simp
    with_reducible rfl
  rotate_left
  · simp only [Act.put, List.setIfInBounds_toArray, List.set_cons_zero, List.set_cons_succ, i64_w, i32_w]
    rfl
  refine Ypure_ (i := 23) (N := some 32) (v := ?_) (a' := ?_) #[true, true, true, true, true, true, true, true, true, true, true, true, true, true, true, true, true, true, true, true, true, true, true, true] rfl rfl (by kernel_rfl) (fun _ _ _ h => h) (Or.inl ⟨by rfl, ?_⟩) ?_ ?_
  rotate_left
  · intro w'
    go_simp
    with_reducible rfl
  rotate_left
  · simp only [Act.put, List.setIfInBounds_toArray, List.set_cons_zero, List.set_cons_succ, i64_w, i32_w]
    rfl
  refine Ydone_ (by kernel_rfl) ?_
  have c0' : w0.drew.cell? ⟨N, 0, none⟩ = some (.pointer (some ⟨p, 0, none⟩)) := c0
  clear c1 c2 cp cU hb0 hb1 hb2 hb2' hb3 hb4
  gi_wp2_with (gi_at_call 32; refine (cH _).mono ?_; rintro e w' ⟨rfl, rfl⟩)
  clear cH hfH hwi c0 c0' hHeld
  obtain ⟨w1, hw1⟩ : ∃ w1, w1 = (w0.alloc (.cells #[.pointer (some ⟨p, 0, none⟩)] 23)).drew := ⟨_, rfl⟩
  rw [← hw1]
  have hz1 : w1.heap.size = N + 5 := by rw [hw1]; simp [hz0]
  have HBW := Aside0.mk (show Below w.heap.size w w1 by rw [hw1]; exact (below_alloc HBW0.out _).drew)
  have b0 : w1.heap[N]? = some (.cells #[.pointer (some ⟨p, 0, none⟩)] 23 (0, 0)) := by rw [hw1]; exact old_blk b0 _
  have b1 : w1.heap[N + 1]? = some (.cells #[.int .i64 (a : Int)] 3 (0, 0)) := by rw [hw1]; exact old_blk b1 _
  have b2 : w1.heap[N + 2]? = some (.cells #[.int .i64 (n : Int)] 3 (0, 0)) := by rw [hw1]; exact old_blk b2 _
  have b3 : w1.heap[N + 3]? = some (.cells #[.int .i64 0] 24 (0, 0)) := by rw [hw1]; exact old_blk b3 _
  have b4 : w1.heap[N + 4]? = some (.cells #[.pointer (some ⟨p, 0, none⟩)] 23 (0, 0)) := by rw [hw1, ← hz0]; exact heap_alloc_new w0 _
  have HZ := Aside0.mk hz1
  have hlt : p < N ∧ s < N := by rw [HN.out]; exact ⟨HH.out.p_lt, HH.out.s_lt⟩
  obtain ⟨hp1, hs1⟩ := hlt
  have hseq := holes_seq w1 (N + 4) p s U bs (HH.out.below HBW.out) (blk_cell b4 rfl)
  have HB0 := Aside0.mk b0
  have HB1 := Aside0.mk b1
  have HB2 := Aside0.mk b2
  have HB3 := Aside0.mk b3
  clear hw1 b0 b1 b2 b3 b4 HBW0
  clear hz0
  refine range_listA itB (xs := gaps 0 bs U) (enc := encP) rfl (enters_of Try.func49 (by kernel_rfl) rfl) hseq (Below.refl _ _) (fun b hb => ?_) (fun _ => rfl)
    (fun W' => Below (N + 5) w1 W') (fun M k W' => Below (N + 5) w1 W' ∧ NoneF (claimP a n) gs k)
    (fun c M k W' => c = .ret ∧ ∃ g : Pc, SomeF (claimP a n) gs g ∧ HasB W' p s U (ins a n bs) ∧ Fr (fun b => b = s) w W' ∧ W'.heap[N + 3]? = some (.cells #[.int .i64 0] 24 (0, 0))) ?hI0 ?hI ?hIx ?hstart ?h0 ?a1 ?assign ?body ?done ?stop
  · rcases hb with rfl | rfl | rfl <;> omega
  case hI0 =>
    rintro A B hA h1 hg
    have hg : Below w1.heap.size A B := hg
    rw [hz1] at hg
    exact h1.trans hg
  case hI =>
    rintro M k A B hA ⟨h1, h2⟩ hg
    have hg : Below w1.heap.size A B := hg
    rw [hz1] at hg
    exact ⟨h1.trans hg, h2⟩
  case hIx =>
    rintro c M k A B hA ⟨rfl, g, h1, h2, h3, h5⟩ hg
    have hg : Below w1.heap.size A B := hg
    rw [hz1] at hg
    refine ⟨rfl, g, h1, h2.same (hg.block _ (by omega)) (hg.block _ (by omega)), h3.trans (T := fun b => N + 5 ≤ b) ⟨hg.os, hg.tape, hg.output, hg.size, fun b _ hb => hg.block b (by omega)⟩ (fun b hb hl => ?_), (hg.block _ (by omega)).trans h5⟩
    rw [← HN.out] at hl; omega
  case hstart => intro M W' h1 h2 h3; exact ⟨h3, rfl⟩
  case h0 => exact Below.refl _ _
  case assign =>
    intro l' x W' K hK
    simp only [encP]
    gi_wp2
    exact hK
  case body =>
    rintro l' M k ⟨g1, g2⟩ W' hx hM hMW ⟨h1, h2⟩
    rw [← HG.out] at hx
    have hgm := gaps_mem HH.out.ok (g1, g2) (List.mem_of_getElem? (by rw [← HG.out]; exact hx))
    simp only at hgm
    have k0 := (h1.block N (by omega)).trans HB0.out
    have k1 := (h1.block (N + 1) (by omega)).trans HB1.out
    have k2 := (h1.block (N + 2) (by omega)).trans HB2.out
    have k3 := (h1.block (N + 3) (by omega)).trans HB3.out
    have HBj := Aside0.mk ((HH.out.below HBW.out).same (h1.block p (by omega)) (h1.block s (by omega)))
    have HK3 := Aside0.mk k3
    have H1 := Aside0.mk h1
    have HX := Aside0.mk hx
    have HMW := Aside0.mk hMW
    have HM := Aside0.mk hM
    have c0 := blk_cell k0 (i := 0) rfl
    have c1 := blk_cell k1 (i := 0) rfl
    have c2 := blk_cell k2 (i := 0) rfl
    have cp := HBj.out.c1
    have hwa : IntKind.i64.wrap ((a : Int) + n) = a + n := IntWalk.i64_in _ (by omega)
    have hwg : IntKind.i64.wrap ((g1 : Int) + g2) = g1 + g2 := IntWalk.i64_in _ (by omega)
    clear hseq h1 hx k0 k1 k2 k3 hM hMW hz1
    by_cases hg1 : g1 ≤ a
    · by_cases hg2 : a + n ≤ g1 + g2
      · have hd2 : (a : Int) + n ≤ (g1 : Int) + g2 := by omega
        have HFD := Aside0.mk (find_take h2 HX.out (by simp [claimP, hg1, hg2]))
        gi_wp2
        have hga := run_gap HH.out.ok (Nat.zero_le a) n hn (by omega)
        have hgm2 : ∃ g ∈ gaps 0 bs U, g.1 ≤ a ∧ a + n ≤ g.1 + g.2 := ⟨(g1, g2), List.mem_of_getElem? (by rw [← HG.out]; exact HX.out), hg1, hg2⟩
        have HLN := Aside0.mk (show longN bs a = 0 from by
          rcases Nat.eq_zero_or_pos (longN bs a) with h0 | h0
          · exact h0
          · obtain ⟨q, hq, hqa⟩ := (longN_pos HH.out.ok).1 h0
            exact absurd (hga.2 hgm2 a (Nat.le_refl _) (by omega)) (own_start HH.out.ok hq hqa))
        have HKY := Aside0.mk (key_ok (wf_nat (k := a) (by omega)))
        have HGM := Aside0.mk hgm2
        clear hga hgm2 hwa hwg hd2
        refine Ystart_ (m := 7) (S := fun w' => w'.cell? ⟨N, 0, none⟩ = some (.pointer (some ⟨p, 0, none⟩)) ∧ w'.cell? ⟨N + 1, 0, none⟩ = some (.int .i64 (a : Int)) ∧ w'.cell? ⟨N + 2, 0, none⟩ = some (.int .i64 (n : Int)) ∧ w'.cell? ⟨p, 1, none⟩ = some (.map (some s))) (ds := [6]) #[false, false, false, false, false, false, false] (by kernel_rfl) rfl rfl (fun _ => trivial) (by kernel_rfl) ⟨c0, c1, c2, cp⟩ (fun hHeld => ?_)
        refine Ytake_ (i := 0) (N := some 49) (v := ?_) (a' := ?_) #[true, false, false, false, false, false, false] rfl rfl (by kernel_rfl) (fun _ _ _ h => h) (Or.inl ⟨by rfl, ?_⟩) hHeld ?_ ?_
        rotate_left
        · rintro w' ⟨s0, s1, s2, s3⟩
          go_simp
          with_reducible rfl
        rotate_left
        · simp only [Act.put, List.setIfInBounds_toArray, List.set_cons_zero, List.set_cons_succ, i64_w, i32_w]
          rfl
        refine Ypure_ (i := 1) (N := some 50) (v := ?_) (a' := ?_) #[true, true, false, false, false, false, false] rfl rfl (by kernel_rfl) (fun _ _ _ h => h) (Or.inl ⟨by rfl, ?_⟩) ?_ ?_
        rotate_left
        · intro w'
          go_simp
          with_reducible rfl
        rotate_left
        · simp only [Act.put, List.setIfInBounds_toArray, List.set_cons_zero, List.set_cons_succ, i64_w, i32_w]
          rfl
        refine Ypure_ (i := 2) (N := some 51) (v := ?_) (a' := ?_) #[true, true, true, false, false, false, false] rfl rfl (by kernel_rfl) (fun _ _ _ h => h) (Or.inl ⟨by rfl, ?_⟩) ?_ ?_
        rotate_left
        · intro w'
          go_simp
          with_reducible rfl
        rotate_left
        · simp only [Act.put, List.setIfInBounds_toArray, List.set_cons_zero, List.set_cons_succ, i64_w, i32_w]
          rfl
        refine Ytake_ (i := 3) (N := some 52) (v := ?_) (a' := ?_) #[true, true, true, true, false, false, false] rfl rfl (by kernel_rfl) (fun _ _ _ h => h) (Or.inl ⟨by rfl, ?_⟩) hHeld ?_ ?_
        rotate_left
        · rintro w' ⟨s0, s1, s2, s3⟩
          go_simp
          with_reducible rfl
        rotate_left
        · simp only [Act.put, List.setIfInBounds_toArray, List.set_cons_zero, List.set_cons_succ, i64_w, i32_w]
          rfl
        refine Ytake_ (i := 4) (N := some 53) (v := ?_) (a' := ?_) #[true, true, true, true, true, false, false] rfl rfl (by kernel_rfl) (fun _ _ _ h => h) (Or.inl ⟨by rfl, ?_⟩) hHeld ?_ ?_
        rotate_left
        · rintro w' ⟨s0, s1, s2, s3⟩
          go_simp
          with_reducible rfl
        rotate_left
        · simp only [Act.put, List.setIfInBounds_toArray, List.set_cons_zero, List.set_cons_succ, i64_w, i32_w]
          rfl
        refine Ytake_ (i := 5) (N := some 54) (v := ?_) (a' := ?_) #[true, true, true, true, true, true, false] rfl rfl (by kernel_rfl) (fun _ _ _ h => h) (Or.inl ⟨by rfl, ?_⟩) hHeld ?_ ?_
        rotate_left
        · rintro w' ⟨s0, s1, s2, s3⟩
          go_simp
          with_reducible rfl
        rotate_left
        · simp only [Act.put, List.setIfInBounds_toArray, List.set_cons_zero, List.set_cons_succ, i64_w, i32_w]
          rfl
        refine Ylast_ (i := 6) (N := none) #[true, true, true, true, true, true, true] rfl rfl (by kernel_rfl) (by decide) (fun K hK => ?_)
        refine Yupd_ (by rfl) rfl rfl law_intB Try.underlying56 1024 (by decide) rfl (HBj.out.map.same rfl) (by obtain ⟨L, h1, h2⟩ := bk_room HBj.out.ok; exact ⟨L, by omega, h2⟩) (key := .int .i64 (a : Int)) (val := .int .i64 (n : Int)) (kl := .int .i64 (a : Int)) rfl rfl HKY.out ?_
        intro w3 hm3 ht3
        have HM3 := Aside0.mk hm3
        have HT3 := Aside0.mk ht3
        clear hm3 ht3
        refine hK.out _ _ ?_
        clear hK K
        refine Ydone_ (by kernel_rfl) ?_
        have HF3 := Aside0.mk (show Fr (fun b => b = s) W' w3 from (Fr.refl _ W').drew.trans' (HT3.out.fr rfl))
        have k3 := HF3.out.get HK3.out (by omega)
        have f3 := blk_free k3 0
        have d3 := blk_cell k3 (i := 0) rfl
        have K3 := Aside0.mk k3
        clear k3 c0 c1 c2 cp
        gi_wp2
        have HFS := Aside0.mk (show Fr (fun b => b = N + 3) w3 (w3.setCell ⟨N + 3, 0, none⟩ (.int .i64 0)) from (Fr.refl (fun b => b = N + 3) w3).setCell (.inl rfl) _)
        have hz := HZ.out
        refine ⟨KeepI.of_fr ((HF3.out.mono (T := fun b => b = s ∨ b = N + 3) (fun b h => .inl h)).trans' (HFS.out.mono (fun b h => .inr h))) (fun b hb ht hc => ?_), rfl, (g1, g2), HFD.out, ⟨?_, ?_, ?_, HBj.out.max⟩, ?_, ?_⟩
        · rcases hc with hc | hc
          · rcases ht with rfl | rfl <;> omega
          · exact hc
        · exact HFS.out.get (HF3.out.get HBj.out.ptr (fun e => HBj.out.ne e)) (by omega)
        · exact (HM3.out.fr HFS.out (by omega)).congr (updF_bk HBj.out.ok HLN.out (by omega))
        · exact chain_ins HBj.out.ok (by omega) HGM.out
        · have hn := HN.out
          refine ⟨HFS.out.os.trans (HF3.out.os.trans (H1.out.os.trans HBW.out.os)), HFS.out.tape.trans (HF3.out.tape.trans (H1.out.tape.trans HBW.out.tape)), HFS.out.output.trans (HF3.out.output.trans (H1.out.output.trans HBW.out.output)), Nat.le_trans HBW.out.size (Nat.le_trans H1.out.size (Nat.le_trans HF3.out.size HFS.out.size)), fun b hb hs => ?_⟩
          rw [← hn] at hb
          have e1 := HBW.out.block b (by omega)
          have e2 := H1.out.block b (by omega)
          have hl1 := HBW.out.size
          have hl2 := H1.out.size
          have e3 := HF3.out.block b (by omega) hs
          have e4 := HFS.out.block b (by have := HF3.out.size; omega) (by omega)
          exact e4.trans (e3.trans (e2.trans e1))
        · have h' := blk_set K3.out 0 (.int .i64 0)
          simpa using h'
      · have hd2 : ¬ ((a : Int) + n ≤ (g1 : Int) + g2) := by omega
        have HFD := Aside0.mk (find_take_none h2 HX.out (by simp [claimP]; omega))
        gi_wp2
        exact ⟨KeepI.refl _ _ _ _, H1.out, HFD.out⟩
    · have HFD := Aside0.mk (find_take_none h2 HX.out (by simp [claimP]; omega))
      gi_wp2
      exact ⟨KeepI.refl _ _ _ _, H1.out, HFD.out⟩
  case done =>
    rintro M W' hM hMW ⟨h1, h2⟩ hD
    have k3 := (h1.block (N + 3) (by omega)).trans HB3.out
    have f3 := blk_free k3 0
    have d3 := blk_cell k3 (i := 0) rfl
    have HBj := Aside0.mk ((HH.out.below HBW.out).same (h1.block p (by omega)) (h1.block s (by omega)))
    have HFD := Aside0.mk (show gs.find? (claimP a n) = none by have : (gs.take (gaps 0 bs U).length).find? (claimP a n) = none := h2; rwa [← HG.out, List.take_length] at this)
    have K3 := Aside0.mk k3
    have H1 := Aside0.mk h1
    have HD := Aside0.mk hD
    clear hseq h1 h2 k3 hM hMW hD
    gi_wp2
    obtain ⟨V, hV⟩ : ∃ V, V = W'.setCell ⟨N + 3, 0, none⟩ (.int .i64 100) := ⟨_, rfl⟩
    rw [← hV]
    have HFS := Aside0.mk (show Fr (fun b => b = N + 3) W' V from by rw [hV]; exact (Fr.refl (fun b => b = N + 3) W').setCell (.inl rfl) _)
    have v3 : V.heap[N + 3]? = some (.cells #[.int .i64 100] 24 (0, 0)) := by
      have h' := blk_set K3.out 0 (.int .i64 100)
      rw [hV]
      simpa using h'
    have hz := HZ.out
    have HDV := Aside0.mk (HFS.out.get HD.out (by omega))
    refine ⟨by simp, .inl ⟨_, _, rfl, run_takeDeferred HDV.out, ?_⟩⟩
    refine ⟨_, results_c1 rfl _ _ (N + 3) _ rfl ((World.putObj_heap_other (by omega)).trans v3) Try.underlying24 rfl, ?_⟩
    rw [HPO.out, ClaimOut, ← HG.out, HFD.out]
    refine ⟨rfl, HBj.out.same ?_ ?_, ?_⟩
    · exact (World.putObj_heap_other (by omega)).trans (HFS.out.block p HBj.out.p_lt (by omega))
    · exact (World.putObj_heap_other (by omega)).trans (HFS.out.block s HBj.out.s_lt (by omega))
    · have hn := HN.out
      refine ⟨HFS.out.os.trans (H1.out.os.trans HBW.out.os), HFS.out.tape.trans (H1.out.tape.trans HBW.out.tape), HFS.out.output.trans (H1.out.output.trans HBW.out.output), ?_, fun b hb hs => ?_⟩
      · have h1 := HBW.out.size; have h2 := H1.out.size; have h3 := HFS.out.size; simp; omega
      · rw [← hn] at hb
        have hl1 := HBW.out.size
        have hl2 := H1.out.size
        exact (World.putObj_heap_other (by omega)).trans ((HFS.out.block b (by omega) (by omega)).trans ((H1.out.block b (by omega)).trans (HBW.out.block b (by omega))))
  case stop =>
    rintro c M k W' hk hM hMW ⟨rfl, g, h1, h2, h3, h5⟩ hD
    have HD := Aside0.mk hD
    have HFD := Aside0.mk h1
    have HB := Aside0.mk h2
    have H3 := Aside0.mk h3
    have H5 := Aside0.mk h5
    clear hseq h1 h2 h3 h5 hD hM hMW hk
    gi_wp2
    have hz := HZ.out
    refine ⟨by simp, .inl ⟨_, _, rfl, run_takeDeferred HD.out, ?_⟩⟩
    refine ⟨_, results_c1 rfl _ _ (N + 3) _ rfl ((World.putObj_heap_other (by omega)).trans H5.out) Try.underlying24 rfl, ?_⟩
    have hfd : gs.find? (claimP a n) = some g := HFD.out
    rw [HPO.out, ClaimOut, ← HG.out, hfd]
    have hn := HN.out
    refine ⟨rfl, HB.out.same (World.putObj_heap_other (by omega)) (World.putObj_heap_other (by omega)), H3.out.os, H3.out.tape, H3.out.output, ?_, fun b hb hs => ?_⟩
    · have := H3.out.size; simpa using this
    · exact (World.putObj_heap_other (by omega)).trans (H3.out.block b hb hs)
set_option maxRecDepth 100000 in
set_option maxHeartbeats 4000000 in
theorem claim_b1 (w : World) (p s U : Nat) (bs : List Pc) (h : HasB w p s U bs) (a n : Int) (hn : n < 1) : Calls Try.prog 22 #[.pointer (some ⟨p, 0, none⟩), .int .i64 a, .int .i64 n] w fun e w' => e = .returned (.int .i64 1) ∧ Below w.heap.size w w' := by
  have cU := h.c0
  have hmU := h.max
  obtain ⟨Po, hPo⟩ : ∃ Po, Po = fun (e : Ending) w' => e = .returned (.int .i64 1) ∧ Below w.heap.size w w' := ⟨_, rfl⟩
  have HPO := Aside0.mk hPo
  rw [← hPo]
  clear h hPo
  refine (callsIn_wide (n := 15)).1 ?_
  refine callsIn_of_wp Try.func22 rfl trivial ?_ rfl
  simp only [Try.ntmps22, List.size_toArray, List.length_cons, List.length_nil, Nat.reduceAdd, Nat.reduceSub, Array.replicate_succ, Array.replicate_zero, List.push_toArray, List.append_toArray, List.nil_append, List.cons_append]
  gi_wp2
  obtain ⟨w0, hw0⟩ : ∃ w0, w0 = ((((w.alloc (.cells #[.pointer (some ⟨p, 0, none⟩)] 23)).alloc (.cells #[.int .i64 a] 3)).alloc (.cells #[.int .i64 n] 3)).alloc (.cells #[.int .i64 0] 24)) := ⟨_, rfl⟩
  rw [← hw0]
  obtain ⟨N, hN⟩ : ∃ N, N = w.heap.size := ⟨_, rfl⟩
  have HN := Aside0.mk hN
  have HBW0 := Aside0.mk (show Below w.heap.size w w0 by rw [hw0]; exact below_alloc (below_alloc (below_alloc (below_alloc (Below.refl _ _) _) _) _) _)
  have b0 : w0.heap[N]? = some (.cells #[.pointer (some ⟨p, 0, none⟩)] 23 (0, 0)) := by rw [hw0, hN]; exact old_blk (old_blk (old_blk (heap_alloc_new w _) _) _) _
  have b1 : w0.heap[N + 1]? = some (.cells #[.int .i64 a] 3 (0, 0)) := by rw [hw0, hN]; exact old_blk (old_blk (alloc_two w _ _) _) _
  have b2 : w0.heap[N + 2]? = some (.cells #[.int .i64 n] 3 (0, 0)) := by rw [hw0, hN]; exact old_blk (alloc_three w _ _ _) _
  have b3 : w0.heap[N + 3]? = some (.cells #[.int .i64 0] 24 (0, 0)) := by
    rw [hw0, hN]
    have := alloc_two ((w.alloc (.cells #[.pointer (some ⟨p, 0, none⟩)] 23)).alloc (.cells #[.int .i64 a] 3)) (.cells #[.int .i64 n] 3) (.cells #[.int .i64 0] 24)
    simpa using this
  have B3 := Aside0.mk b3
  have c0 := blk_cell b0 (i := 0) rfl
  have c1 := blk_cell b1 (i := 0) rfl
  have c2 := blk_cell b2 (i := 0) rfl
  have c3 : w0.drew.cell? ⟨N + 3, 0, none⟩ = some (.int .i64 0) := blk_cell b3 (i := 0) rfl
  have f3 : w0.drew.frozen? ⟨N + 3, 0, none⟩ = false := blk_free b3 0
  have cp := bel_cellB HBW0.out cU
  have hb0 : decide (n < 1) = true := by simp; omega
  clear hw0 b0 b1 b2 b3 cU
  rw [← hN]
  clear hN
  refine Ystart_ (m := 24) (S := fun w' => w'.cell? ⟨N, 0, none⟩ = some (.pointer (some ⟨p, 0, none⟩)) ∧ w'.cell? ⟨N + 1, 0, none⟩ = some (.int .i64 a) ∧ w'.cell? ⟨N + 2, 0, none⟩ = some (.int .i64 n) ∧ w'.cell? ⟨p, 0, none⟩ = some (.int .i64 (U : Int))) (ds := []) #[false, false, false, false, false, false, false, false, false, false, false, false, false, false, false, false, false, false, false, false, false, false, false, false] (by kernel_rfl) rfl rfl (fun _ => trivial) (by kernel_rfl) ⟨c0, c1, c2, cp⟩ (fun hHeld => ?_)
  refine Ytake_ (i := 0) (N := some 9) (v := ?_) (a' := ?_) #[true, false, false, false, false, false, false, false, false, false, false, false, false, false, false, false, false, false, false, false, false, false, false, false] rfl rfl (by kernel_rfl) (fun _ _ _ h => h) (Or.inl ⟨by rfl, ?_⟩) hHeld ?_ ?_
  rotate_left
  · rintro w' ⟨s0, s1, s2, s3⟩
    go_simp
    with_reducible rfl
  rotate_left
  · simp only [Act.put, List.setIfInBounds_toArray, List.set_cons_zero, List.set_cons_succ, i64_w, i32_w]
    rfl
  refine Ypure_ (i := 1) (N := some 10) (v := ?_) (a' := ?_) #[true, true, false, false, false, false, false, false, false, false, false, false, false, false, false, false, false, false, false, false, false, false, false, false] rfl rfl (by kernel_rfl) (fun _ _ _ h => h) (Or.inl ⟨by rfl, ?_⟩) ?_ ?_
  rotate_left
  · intro w'
    go_simp
    with_reducible rfl
  rotate_left
  · simp only [Act.put, List.setIfInBounds_toArray, List.set_cons_zero, List.set_cons_succ, i64_w, i32_w]
    rfl
  refine Ypure_ (i := 2) (N := some 11) (v := ?_) (a' := ?_) #[true, true, true, false, false, false, false, false, false, false, false, false, false, false, false, false, false, false, false, false, false, false, false, false] rfl rfl (by kernel_rfl) (fun _ _ _ h => h) (Or.inl ⟨by rfl, ?_⟩) ?_ ?_
  rotate_left
  · intro w'
    go_simp
    with_reducible rfl
  rotate_left
  · simp only [Act.put, List.setIfInBounds_toArray, List.set_cons_zero, List.set_cons_succ, i64_w, i32_w]
    rfl
  refine Ypure_ (i := 3) (N := some 12) (v := undef) (a' := ?_) #[true, true, true, true, false, false, false, false, false, false, false, false, false, false, false, false, false, false, false, false, false, false, false, false] rfl rfl (by kernel_rfl) (fun _ _ _ h => h) (Or.inr ⟨by rfl, rfl⟩) ?_ ?_
  rotate_left
  · simp only [Act.put, List.setIfInBounds_toArray, List.set_cons_zero, List.set_cons_succ, i64_w, i32_w]
    rfl
  refine Ypure_ (i := 4) (N := some 13) (v := undef) (a' := ?_) #[true, true, true, true, true, false, false, false, false, false, false, false, false, false, false, false, false, false, false, false, false, false, false, false] rfl rfl (by kernel_rfl) (fun _ _ _ h => h) (Or.inr ⟨by rfl, rfl⟩) ?_ ?_
  rotate_left
  · simp only [Act.put, List.setIfInBounds_toArray, List.set_cons_zero, List.set_cons_succ, i64_w, i32_w]
    rfl
  refine Ypure_ (i := 5) (N := some 14) (v := ?_) (a' := ?_) #[true, true, true, true, true, true, false, false, false, false, false, false, false, false, false, false, false, false, false, false, false, false, false, false] rfl rfl (by kernel_rfl) (fun _ _ _ h => h) (Or.inl ⟨by rfl, ?_⟩) ?_ ?_
  rotate_left
  · intro w'
    go_simp
    with_reducible rfl
  rotate_left
  · simp only [Act.put, List.setIfInBounds_toArray, List.set_cons_zero, List.set_cons_succ, i64_w, i32_w]
    rfl
  refine Ypure_ (i := 6) (N := some 15) (v := ?_) (a' := ?_) #[true, true, true, true, true, true, true, false, false, false, false, false, false, false, false, false, false, false, false, false, false, false, false, false] rfl rfl (by kernel_rfl) (fun _ _ _ h => h) (Or.inl ⟨by rfl, ?_⟩) ?_ ?_
  rotate_left
  · intro w'
    go_simp
    with_reducible rfl
  rotate_left
  · simp only [Act.put, List.setIfInBounds_toArray, List.set_cons_zero, List.set_cons_succ, i64_w, i32_w]
    rfl
  refine Ypure_ (i := 7) (N := some 16) (v := undef) (a' := ?_) #[true, true, true, true, true, true, true, true, false, false, false, false, false, false, false, false, false, false, false, false, false, false, false, false] rfl rfl (by kernel_rfl) (fun _ _ _ h => h) (Or.inr ⟨by rfl, rfl⟩) ?_ ?_
  rotate_left
  · simp only [Act.put, List.setIfInBounds_toArray, List.set_cons_zero, List.set_cons_succ, i64_w, i32_w]
    rfl
  refine Ypure_ (i := 8) (N := some 17) (v := undef) (a' := ?_) #[true, true, true, true, true, true, true, true, true, false, false, false, false, false, false, false, false, false, false, false, false, false, false, false] rfl rfl (by kernel_rfl) (fun _ _ _ h => h) (Or.inr ⟨by rfl, rfl⟩) ?_ ?_
  rotate_left
  · simp only [Act.put, List.setIfInBounds_toArray, List.set_cons_zero, List.set_cons_succ, i64_w, i32_w]
    rfl
  refine Ypure_ (i := 9) (N := some 18) (v := undef) (a' := ?_) #[true, true, true, true, true, true, true, true, true, true, false, false, false, false, false, false, false, false, false, false, false, false, false, false] rfl rfl (by kernel_rfl) (fun _ _ _ h => h) (Or.inr ⟨by rfl, rfl⟩) ?_ ?_
  rotate_left
  · simp only [Act.put, List.setIfInBounds_toArray, List.set_cons_zero, List.set_cons_succ, i64_w, i32_w]
    rfl
  refine Ypure_ (i := 10) (N := some 19) (v := undef) (a' := ?_) #[true, true, true, true, true, true, true, true, true, true, true, false, false, false, false, false, false, false, false, false, false, false, false, false] rfl rfl (by kernel_rfl) (fun _ _ _ h => h) (Or.inr ⟨by rfl, rfl⟩) ?_ ?_
  rotate_left
  · simp only [Act.put, List.setIfInBounds_toArray, List.set_cons_zero, List.set_cons_succ, i64_w, i32_w]
    rfl
  refine Ypure_ (i := 11) (N := some 20) (v := undef) (a' := ?_) #[true, true, true, true, true, true, true, true, true, true, true, true, false, false, false, false, false, false, false, false, false, false, false, false] rfl rfl (by kernel_rfl) (fun _ _ _ h => h) (Or.inr ⟨by rfl, rfl⟩) ?_ ?_
  rotate_left
  · simp only [Act.put, List.setIfInBounds_toArray, List.set_cons_zero, List.set_cons_succ, i64_w, i32_w]
    rfl
  refine Ypure_ (i := 12) (N := some 21) (v := undef) (a' := ?_) #[true, true, true, true, true, true, true, true, true, true, true, true, true, false, false, false, false, false, false, false, false, false, false, false] rfl rfl (by kernel_rfl) (fun _ _ _ h => h) (Or.inr ⟨by rfl, rfl⟩) ?_ ?_
  rotate_left
  · simp only [Act.put, List.setIfInBounds_toArray, List.set_cons_zero, List.set_cons_succ, i64_w, i32_w]
    rfl
  refine Ypure_ (i := 13) (N := some 22) (v := ?_) (a' := ?_) #[true, true, true, true, true, true, true, true, true, true, true, true, true, true, false, false, false, false, false, false, false, false, false, false] rfl rfl (by kernel_rfl) (fun _ _ _ h => h) (Or.inl ⟨by rfl, ?_⟩) ?_ ?_
  rotate_left
  · intro w'
    go_simp
    with_reducible rfl
  rotate_left
  · simp only [Act.put, List.setIfInBounds_toArray, List.set_cons_zero, List.set_cons_succ, i64_w, i32_w]
    rfl
  refine Ypure_ (i := 14) (N := some 23) (v := ?_) (a' := ?_) #[true, true, true, true, true, true, true, true, true, true, true, true, true, true, true, false, false, false, false, false, false, false, false, false] rfl rfl (by kernel_rfl) (fun _ _ _ h => h) (Or.inl ⟨by rfl, ?_⟩) ?_ ?_
  rotate_left
  · intro w'
    go_simp
    with_reducible rfl
  rotate_left
  · simp only [Act.put, List.setIfInBounds_toArray, List.set_cons_zero, List.set_cons_succ, i64_w, i32_w]
    rfl
  refine Ypure_ (i := 15) (N := some 24) (v := undef) (a' := ?_) #[true, true, true, true, true, true, true, true, true, true, true, true, true, true, true, true, false, false, false, false, false, false, false, false] rfl rfl (by kernel_rfl) (fun _ _ _ h => h) (Or.inr ⟨by rfl, rfl⟩) ?_ ?_
  rotate_left
  · simp only [Act.put, List.setIfInBounds_toArray, List.set_cons_zero, List.set_cons_succ, i64_w, i32_w]
    rfl
  refine Ypure_ (i := 16) (N := some 25) (v := undef) (a' := ?_) #[true, true, true, true, true, true, true, true, true, true, true, true, true, true, true, true, true, false, false, false, false, false, false, false] rfl rfl (by kernel_rfl) (fun _ _ _ h => h) (Or.inr ⟨by rfl, rfl⟩) ?_ ?_
  rotate_left
  · simp only [Act.put, List.setIfInBounds_toArray, List.set_cons_zero, List.set_cons_succ, i64_w, i32_w]
    rfl
  refine Ypure_ (i := 17) (N := some 26) (v := undef) (a' := ?_) #[true, true, true, true, true, true, true, true, true, true, true, true, true, true, true, true, true, true, false, false, false, false, false, false] rfl rfl (by kernel_rfl) (fun _ _ _ h => h) (Or.inr ⟨by rfl, rfl⟩) ?_ ?_
  rotate_left
  · simp only [Act.put, List.setIfInBounds_toArray, List.set_cons_zero, List.set_cons_succ, i64_w, i32_w]
    rfl
  refine Ypure_ (i := 18) (N := some 27) (v := undef) (a' := ?_) #[true, true, true, true, true, true, true, true, true, true, true, true, true, true, true, true, true, true, true, false, false, false, false, false] rfl rfl (by kernel_rfl) (fun _ _ _ h => h) (Or.inr ⟨by rfl, rfl⟩) ?_ ?_
  rotate_left
  · simp only [Act.put, List.setIfInBounds_toArray, List.set_cons_zero, List.set_cons_succ, i64_w, i32_w]
    rfl
  refine Ypure_ (i := 19) (N := some 28) (v := undef) (a' := ?_) #[true, true, true, true, true, true, true, true, true, true, true, true, true, true, true, true, true, true, true, true, false, false, false, false] rfl rfl (by kernel_rfl) (fun _ _ _ h => h) (Or.inr ⟨by rfl, rfl⟩) ?_ ?_
  rotate_left
  · simp only [Act.put, List.setIfInBounds_toArray, List.set_cons_zero, List.set_cons_succ, i64_w, i32_w]
    rfl
  refine Ypure_ (i := 20) (N := some 29) (v := undef) (a' := ?_) #[true, true, true, true, true, true, true, true, true, true, true, true, true, true, true, true, true, true, true, true, true, false, false, false] rfl rfl (by kernel_rfl) (fun _ _ _ h => h) (Or.inr ⟨by rfl, rfl⟩) ?_ ?_
  rotate_left
  · simp only [Act.put, List.setIfInBounds_toArray, List.set_cons_zero, List.set_cons_succ, i64_w, i32_w]
    rfl
  refine Ypure_ (i := 21) (N := some 30) (v := undef) (a' := ?_) #[true, true, true, true, true, true, true, true, true, true, true, true, true, true, true, true, true, true, true, true, true, true, false, false] rfl rfl (by kernel_rfl) (fun _ _ _ h => h) (Or.inr ⟨by rfl, rfl⟩) ?_ ?_
  rotate_left
  · simp only [Act.put, List.setIfInBounds_toArray, List.set_cons_zero, List.set_cons_succ, i64_w, i32_w]
    rfl
  refine Ypure_ (i := 22) (N := some 31) (v := undef) (a' := ?_) #[true, true, true, true, true, true, true, true, true, true, true, true, true, true, true, true, true, true, true, true, true, true, true, false] rfl rfl (by kernel_rfl) (fun _ _ _ h => h) (Or.inr ⟨by rfl, rfl⟩) ?_ ?_
  rotate_left
  · simp only [Act.put, List.setIfInBounds_toArray, List.set_cons_zero, List.set_cons_succ, i64_w, i32_w]
    rfl
  refine Ypure_ (i := 23) (N := some 32) (v := ?_) (a' := ?_) #[true, true, true, true, true, true, true, true, true, true, true, true, true, true, true, true, true, true, true, true, true, true, true, true] rfl rfl (by kernel_rfl) (fun _ _ _ h => h) (Or.inl ⟨by rfl, ?_⟩) ?_ ?_
  rotate_left
  · intro w'
    go_simp
    with_reducible rfl
  rotate_left
  · simp only [Act.put, List.setIfInBounds_toArray, List.set_cons_zero, List.set_cons_succ, i64_w, i32_w]
    rfl
  refine Ydone_ (by kernel_rfl) ?_
  gi_wp2
  have hn := HN.out
  refine bodyPost_ret (results_c1 rfl _ _ (N + 3) (v := .int .i64 1) (t := 24) (fr := (0, 0)) _ rfl ?_ Try.underlying24 rfl) rfl ?_
  · have h' : (w0.setCell ⟨N + 3, 0, none⟩ (.int .i64 1)).heap[N + 3]? = some (.cells #[.int .i64 1] 24 (0, 0)) := by
      have := blk_set B3.out 0 (.int .i64 1)
      simpa using this
    exact h'
  · rw [HPO.out]
    exact ⟨rfl, HBW0.out.drew.setCell (p := ⟨N + 3, 0, none⟩) (by rw [hn]; simp only; omega) _⟩
set_option maxRecDepth 100000 in
set_option maxHeartbeats 4000000 in
theorem claim_b2 (w : World) (p s U : Nat) (bs : List Pc) (h : HasB w p s U bs) (a n : Int) (hn : ¬ n < 1) (ha : a < 0) : Calls Try.prog 22 #[.pointer (some ⟨p, 0, none⟩), .int .i64 a, .int .i64 n] w fun e w' => e = .returned (.int .i64 1) ∧ Below w.heap.size w w' := by
  have cU := h.c0
  have hmU := h.max
  obtain ⟨Po, hPo⟩ : ∃ Po, Po = fun (e : Ending) w' => e = .returned (.int .i64 1) ∧ Below w.heap.size w w' := ⟨_, rfl⟩
  have HPO := Aside0.mk hPo
  rw [← hPo]
  clear h hPo
  refine (callsIn_wide (n := 15)).1 ?_
  refine callsIn_of_wp Try.func22 rfl trivial ?_ rfl
  simp only [Try.ntmps22, List.size_toArray, List.length_cons, List.length_nil, Nat.reduceAdd, Nat.reduceSub, Array.replicate_succ, Array.replicate_zero, List.push_toArray, List.append_toArray, List.nil_append, List.cons_append]
  gi_wp2
  obtain ⟨w0, hw0⟩ : ∃ w0, w0 = ((((w.alloc (.cells #[.pointer (some ⟨p, 0, none⟩)] 23)).alloc (.cells #[.int .i64 a] 3)).alloc (.cells #[.int .i64 n] 3)).alloc (.cells #[.int .i64 0] 24)) := ⟨_, rfl⟩
  rw [← hw0]
  obtain ⟨N, hN⟩ : ∃ N, N = w.heap.size := ⟨_, rfl⟩
  have HN := Aside0.mk hN
  have HBW0 := Aside0.mk (show Below w.heap.size w w0 by rw [hw0]; exact below_alloc (below_alloc (below_alloc (below_alloc (Below.refl _ _) _) _) _) _)
  have b0 : w0.heap[N]? = some (.cells #[.pointer (some ⟨p, 0, none⟩)] 23 (0, 0)) := by rw [hw0, hN]; exact old_blk (old_blk (old_blk (heap_alloc_new w _) _) _) _
  have b1 : w0.heap[N + 1]? = some (.cells #[.int .i64 a] 3 (0, 0)) := by rw [hw0, hN]; exact old_blk (old_blk (alloc_two w _ _) _) _
  have b2 : w0.heap[N + 2]? = some (.cells #[.int .i64 n] 3 (0, 0)) := by rw [hw0, hN]; exact old_blk (alloc_three w _ _ _) _
  have b3 : w0.heap[N + 3]? = some (.cells #[.int .i64 0] 24 (0, 0)) := by
    rw [hw0, hN]
    have := alloc_two ((w.alloc (.cells #[.pointer (some ⟨p, 0, none⟩)] 23)).alloc (.cells #[.int .i64 a] 3)) (.cells #[.int .i64 n] 3) (.cells #[.int .i64 0] 24)
    simpa using this
  have B3 := Aside0.mk b3
  have c0 := blk_cell b0 (i := 0) rfl
  have c1 := blk_cell b1 (i := 0) rfl
  have c2 := blk_cell b2 (i := 0) rfl
  have c3 : w0.drew.cell? ⟨N + 3, 0, none⟩ = some (.int .i64 0) := blk_cell b3 (i := 0) rfl
  have f3 : w0.drew.frozen? ⟨N + 3, 0, none⟩ = false := blk_free b3 0
  have cp := bel_cellB HBW0.out cU
  have hb0 : decide (n < 1) = false := by simp; omega
  have hb1 : decide (a < 0) = true := by simp; omega
  clear hw0 b0 b1 b2 b3 cU
  rw [← hN]
  clear hN
  refine Ystart_ (m := 24) (S := fun w' => w'.cell? ⟨N, 0, none⟩ = some (.pointer (some ⟨p, 0, none⟩)) ∧ w'.cell? ⟨N + 1, 0, none⟩ = some (.int .i64 a) ∧ w'.cell? ⟨N + 2, 0, none⟩ = some (.int .i64 n) ∧ w'.cell? ⟨p, 0, none⟩ = some (.int .i64 (U : Int))) (ds := []) #[false, false, false, false, false, false, false, false, false, false, false, false, false, false, false, false, false, false, false, false, false, false, false, false] (by kernel_rfl) rfl rfl (fun _ => trivial) (by kernel_rfl) ⟨c0, c1, c2, cp⟩ (fun hHeld => ?_)
  refine Ytake_ (i := 0) (N := some 9) (v := ?_) (a' := ?_) #[true, false, false, false, false, false, false, false, false, false, false, false, false, false, false, false, false, false, false, false, false, false, false, false] rfl rfl (by kernel_rfl) (fun _ _ _ h => h) (Or.inl ⟨by rfl, ?_⟩) hHeld ?_ ?_
  rotate_left
  · rintro w' ⟨s0, s1, s2, s3⟩
    go_simp
    with_reducible rfl
  rotate_left
  · simp only [Act.put, List.setIfInBounds_toArray, List.set_cons_zero, List.set_cons_succ, i64_w, i32_w]
    rfl
  refine Ypure_ (i := 1) (N := some 10) (v := ?_) (a' := ?_) #[true, true, false, false, false, false, false, false, false, false, false, false, false, false, false, false, false, false, false, false, false, false, false, false] rfl rfl (by kernel_rfl) (fun _ _ _ h => h) (Or.inl ⟨by rfl, ?_⟩) ?_ ?_
  rotate_left
  · intro w'
    go_simp
    with_reducible rfl
  rotate_left
  · simp only [Act.put, List.setIfInBounds_toArray, List.set_cons_zero, List.set_cons_succ, i64_w, i32_w]
    rfl
  refine Ypure_ (i := 2) (N := some 11) (v := ?_) (a' := ?_) #[true, true, true, false, false, false, false, false, false, false, false, false, false, false, false, false, false, false, false, false, false, false, false, false] rfl rfl (by kernel_rfl) (fun _ _ _ h => h) (Or.inl ⟨by rfl, ?_⟩) ?_ ?_
  rotate_left
  · intro w'
    go_simp
    with_reducible rfl
  rotate_left
  · simp only [Act.put, List.setIfInBounds_toArray, List.set_cons_zero, List.set_cons_succ, i64_w, i32_w]
    rfl
  refine Ytake_ (i := 3) (N := some 12) (v := ?_) (a' := ?_) #[true, true, true, true, false, false, false, false, false, false, false, false, false, false, false, false, false, false, false, false, false, false, false, false] rfl rfl (by kernel_rfl) (fun _ _ _ h => h) (Or.inl ⟨by rfl, ?_⟩) hHeld ?_ ?_
  rotate_left
  · rintro w' ⟨s0, s1, s2, s3⟩
    go_simp
    with_reducible rfl
  rotate_left
  · simp only [Act.put, List.setIfInBounds_toArray, List.set_cons_zero, List.set_cons_succ, i64_w, i32_w]
    rfl
  refine Ypure_ (i := 4) (N := some 13) (v := ?_) (a' := ?_) #[true, true, true, true, true, false, false, false, false, false, false, false, false, false, false, false, false, false, false, false, false, false, false, false] rfl rfl (by kernel_rfl) (fun _ _ _ h => h) (Or.inl ⟨by rfl, ?_⟩) ?_ ?_
  rotate_left
  · intro w'
    go_simp
    with_reducible rfl
  rotate_left
  · simp only [Act.put, List.setIfInBounds_toArray, List.set_cons_zero, List.set_cons_succ, i64_w, i32_w]
    rfl
  refine Ypure_ (i := 5) (N := some 14) (v := ?_) (a' := ?_) #[true, true, true, true, true, true, false, false, false, false, false, false, false, false, false, false, false, false, false, false, false, false, false, false] rfl rfl (by kernel_rfl) (fun _ _ _ h => h) (Or.inl ⟨by rfl, ?_⟩) ?_ ?_
  rotate_left
  · intro w'
    go_simp
    with_reducible rfl
  rotate_left
  · simp only [Act.put, List.setIfInBounds_toArray, List.set_cons_zero, List.set_cons_succ, i64_w, i32_w]
    rfl
  refine Ypure_ (i := 6) (N := some 15) (v := ?_) (a' := ?_) #[true, true, true, true, true, true, true, false, false, false, false, false, false, false, false, false, false, false, false, false, false, false, false, false] rfl rfl (by kernel_rfl) (fun _ _ _ h => h) (Or.inl ⟨by rfl, ?_⟩) ?_ ?_
  rotate_left
  · intro w'
    go_simp
    with_reducible rfl
  rotate_left
  · simp only [Act.put, List.setIfInBounds_toArray, List.set_cons_zero, List.set_cons_succ, i64_w, i32_w]
    rfl
  refine Ypure_ (i := 7) (N := some 16) (v := undef) (a' := ?_) #[true, true, true, true, true, true, true, true, false, false, false, false, false, false, false, false, false, false, false, false, false, false, false, false] rfl rfl (by kernel_rfl) (fun _ _ _ h => h) (Or.inr ⟨by rfl, rfl⟩) ?_ ?_
  rotate_left
  · simp only [Act.put, List.setIfInBounds_toArray, List.set_cons_zero, List.set_cons_succ, i64_w, i32_w]
    rfl
  refine Ypure_ (i := 8) (N := some 17) (v := undef) (a' := ?_) #[true, true, true, true, true, true, true, true, true, false, false, false, false, false, false, false, false, false, false, false, false, false, false, false] rfl rfl (by kernel_rfl) (fun _ _ _ h => h) (Or.inr ⟨by rfl, rfl⟩) ?_ ?_
  rotate_left
  · simp only [Act.put, List.setIfInBounds_toArray, List.set_cons_zero, List.set_cons_succ, i64_w, i32_w]
    rfl
  refine Ypure_ (i := 9) (N := some 18) (v := undef) (a' := ?_) #[true, true, true, true, true, true, true, true, true, true, false, false, false, false, false, false, false, false, false, false, false, false, false, false] rfl rfl (by kernel_rfl) (fun _ _ _ h => h) (Or.inr ⟨by rfl, rfl⟩) ?_ ?_
  rotate_left
  · simp only [Act.put, List.setIfInBounds_toArray, List.set_cons_zero, List.set_cons_succ, i64_w, i32_w]
    rfl
  refine Ypure_ (i := 10) (N := some 19) (v := undef) (a' := ?_) #[true, true, true, true, true, true, true, true, true, true, true, false, false, false, false, false, false, false, false, false, false, false, false, false] rfl rfl (by kernel_rfl) (fun _ _ _ h => h) (Or.inr ⟨by rfl, rfl⟩) ?_ ?_
  rotate_left
  · simp only [Act.put, List.setIfInBounds_toArray, List.set_cons_zero, List.set_cons_succ, i64_w, i32_w]
    rfl
  refine Ypure_ (i := 11) (N := some 20) (v := undef) (a' := ?_) #[true, true, true, true, true, true, true, true, true, true, true, true, false, false, false, false, false, false, false, false, false, false, false, false] rfl rfl (by kernel_rfl) (fun _ _ _ h => h) (Or.inr ⟨by rfl, rfl⟩) ?_ ?_
  rotate_left
  · simp only [Act.put, List.setIfInBounds_toArray, List.set_cons_zero, List.set_cons_succ, i64_w, i32_w]
    rfl
  refine Ypure_ (i := 12) (N := some 21) (v := undef) (a' := ?_) #[true, true, true, true, true, true, true, true, true, true, true, true, true, false, false, false, false, false, false, false, false, false, false, false] rfl rfl (by kernel_rfl) (fun _ _ _ h => h) (Or.inr ⟨by rfl, rfl⟩) ?_ ?_
  rotate_left
  · simp only [Act.put, List.setIfInBounds_toArray, List.set_cons_zero, List.set_cons_succ, i64_w, i32_w]
    rfl
  refine Ypure_ (i := 13) (N := some 22) (v := ?_) (a' := ?_) #[true, true, true, true, true, true, true, true, true, true, true, true, true, true, false, false, false, false, false, false, false, false, false, false] rfl rfl (by kernel_rfl) (fun _ _ _ h => h) (Or.inl ⟨by rfl, ?_⟩) ?_ ?_
  rotate_left
  · intro w'
    go_simp
    with_reducible rfl
  rotate_left
  · simp only [Act.put, List.setIfInBounds_toArray, List.set_cons_zero, List.set_cons_succ, i64_w, i32_w]
    rfl
  refine Ypure_ (i := 14) (N := some 23) (v := ?_) (a' := ?_) #[true, true, true, true, true, true, true, true, true, true, true, true, true, true, true, false, false, false, false, false, false, false, false, false] rfl rfl (by kernel_rfl) (fun _ _ _ h => h) (Or.inl ⟨by rfl, ?_⟩) ?_ ?_
  rotate_left
  · intro w'
    go_simp
    with_reducible rfl
  rotate_left
  · simp only [Act.put, List.setIfInBounds_toArray, List.set_cons_zero, List.set_cons_succ, i64_w, i32_w]
    rfl
  refine Ypure_ (i := 15) (N := some 24) (v := undef) (a' := ?_) #[true, true, true, true, true, true, true, true, true, true, true, true, true, true, true, true, false, false, false, false, false, false, false, false] rfl rfl (by kernel_rfl) (fun _ _ _ h => h) (Or.inr ⟨by rfl, rfl⟩) ?_ ?_
  rotate_left
  · simp only [Act.put, List.setIfInBounds_toArray, List.set_cons_zero, List.set_cons_succ, i64_w, i32_w]
    rfl
  refine Ypure_ (i := 16) (N := some 25) (v := undef) (a' := ?_) #[true, true, true, true, true, true, true, true, true, true, true, true, true, true, true, true, true, false, false, false, false, false, false, false] rfl rfl (by kernel_rfl) (fun _ _ _ h => h) (Or.inr ⟨by rfl, rfl⟩) ?_ ?_
  rotate_left
  · simp only [Act.put, List.setIfInBounds_toArray, List.set_cons_zero, List.set_cons_succ, i64_w, i32_w]
    rfl
  refine Ypure_ (i := 17) (N := some 26) (v := undef) (a' := ?_) #[true, true, true, true, true, true, true, true, true, true, true, true, true, true, true, true, true, true, false, false, false, false, false, false] rfl rfl (by kernel_rfl) (fun _ _ _ h => h) (Or.inr ⟨by rfl, rfl⟩) ?_ ?_
  rotate_left
  · simp only [Act.put, List.setIfInBounds_toArray, List.set_cons_zero, List.set_cons_succ, i64_w, i32_w]
    rfl
  refine Ypure_ (i := 18) (N := some 27) (v := undef) (a' := ?_) #[true, true, true, true, true, true, true, true, true, true, true, true, true, true, true, true, true, true, true, false, false, false, false, false] rfl rfl (by kernel_rfl) (fun _ _ _ h => h) (Or.inr ⟨by rfl, rfl⟩) ?_ ?_
  rotate_left
  · simp only [Act.put, List.setIfInBounds_toArray, List.set_cons_zero, List.set_cons_succ, i64_w, i32_w]
    rfl
  refine Ypure_ (i := 19) (N := some 28) (v := undef) (a' := ?_) #[true, true, true, true, true, true, true, true, true, true, true, true, true, true, true, true, true, true, true, true, false, false, false, false] rfl rfl (by kernel_rfl) (fun _ _ _ h => h) (Or.inr ⟨by rfl, rfl⟩) ?_ ?_
  rotate_left
  · simp only [Act.put, List.setIfInBounds_toArray, List.set_cons_zero, List.set_cons_succ, i64_w, i32_w]
    rfl
  refine Ypure_ (i := 20) (N := some 29) (v := undef) (a' := ?_) #[true, true, true, true, true, true, true, true, true, true, true, true, true, true, true, true, true, true, true, true, true, false, false, false] rfl rfl (by kernel_rfl) (fun _ _ _ h => h) (Or.inr ⟨by rfl, rfl⟩) ?_ ?_
  rotate_left
  · simp only [Act.put, List.setIfInBounds_toArray, List.set_cons_zero, List.set_cons_succ, i64_w, i32_w]
    rfl
  refine Ypure_ (i := 21) (N := some 30) (v := undef) (a' := ?_) #[true, true, true, true, true, true, true, true, true, true, true, true, true, true, true, true, true, true, true, true, true, true, false, false] rfl rfl (by kernel_rfl) (fun _ _ _ h => h) (Or.inr ⟨by rfl, rfl⟩) ?_ ?_
  rotate_left
  · simp only [Act.put, List.setIfInBounds_toArray, List.set_cons_zero, List.set_cons_succ, i64_w, i32_w]
    rfl
  refine Ypure_ (i := 22) (N := some 31) (v := undef) (a' := ?_) #[true, true, true, true, true, true, true, true, true, true, true, true, true, true, true, true, true, true, true, true, true, true, true, false] rfl rfl (by kernel_rfl) (fun _ _ _ h => h) (Or.inr ⟨by rfl, rfl⟩) ?_ ?_
  rotate_left
  · simp only [Act.put, List.setIfInBounds_toArray, List.set_cons_zero, List.set_cons_succ, i64_w, i32_w]
    rfl
  refine Ypure_ (i := 23) (N := some 32) (v := ?_) (a' := ?_) #[true, true, true, true, true, true, true, true, true, true, true, true, true, true, true, true, true, true, true, true, true, true, true, true] rfl rfl (by kernel_rfl) (fun _ _ _ h => h) (Or.inl ⟨by rfl, ?_⟩) ?_ ?_
  rotate_left
  · intro w'
    go_simp
    with_reducible rfl
  rotate_left
  · simp only [Act.put, List.setIfInBounds_toArray, List.set_cons_zero, List.set_cons_succ, i64_w, i32_w]
    rfl
  refine Ydone_ (by kernel_rfl) ?_
  gi_wp2
  have hn := HN.out
  refine bodyPost_ret (results_c1 rfl _ _ (N + 3) (v := .int .i64 1) (t := 24) (fr := (0, 0)) _ rfl ?_ Try.underlying24 rfl) rfl ?_
  · have h' : (w0.setCell ⟨N + 3, 0, none⟩ (.int .i64 1)).heap[N + 3]? = some (.cells #[.int .i64 1] 24 (0, 0)) := by
      have := blk_set B3.out 0 (.int .i64 1)
      simpa using this
    exact h'
  · rw [HPO.out]
    exact ⟨rfl, HBW0.out.drew.setCell (p := ⟨N + 3, 0, none⟩) (by rw [hn]; simp only; omega) _⟩
set_option maxRecDepth 100000 in
set_option maxHeartbeats 4000000 in
theorem claim_b3 (w : World) (p s U : Nat) (bs : List Pc) (h : HasB w p s U bs) (a n : Int) (hn : ¬ n < 1) (ha : ¬ a < 0) (hu : (U : Int) < n) : Calls Try.prog 22 #[.pointer (some ⟨p, 0, none⟩), .int .i64 a, .int .i64 n] w fun e w' => e = .returned (.int .i64 1) ∧ Below w.heap.size w w' := by
  have cU := h.c0
  have hmU := h.max
  obtain ⟨Po, hPo⟩ : ∃ Po, Po = fun (e : Ending) w' => e = .returned (.int .i64 1) ∧ Below w.heap.size w w' := ⟨_, rfl⟩
  have HPO := Aside0.mk hPo
  rw [← hPo]
  clear h hPo
  refine (callsIn_wide (n := 15)).1 ?_
  refine callsIn_of_wp Try.func22 rfl trivial ?_ rfl
  simp only [Try.ntmps22, List.size_toArray, List.length_cons, List.length_nil, Nat.reduceAdd, Nat.reduceSub, Array.replicate_succ, Array.replicate_zero, List.push_toArray, List.append_toArray, List.nil_append, List.cons_append]
  gi_wp2
  obtain ⟨w0, hw0⟩ : ∃ w0, w0 = ((((w.alloc (.cells #[.pointer (some ⟨p, 0, none⟩)] 23)).alloc (.cells #[.int .i64 a] 3)).alloc (.cells #[.int .i64 n] 3)).alloc (.cells #[.int .i64 0] 24)) := ⟨_, rfl⟩
  rw [← hw0]
  obtain ⟨N, hN⟩ : ∃ N, N = w.heap.size := ⟨_, rfl⟩
  have HN := Aside0.mk hN
  have HBW0 := Aside0.mk (show Below w.heap.size w w0 by rw [hw0]; exact below_alloc (below_alloc (below_alloc (below_alloc (Below.refl _ _) _) _) _) _)
  have b0 : w0.heap[N]? = some (.cells #[.pointer (some ⟨p, 0, none⟩)] 23 (0, 0)) := by rw [hw0, hN]; exact old_blk (old_blk (old_blk (heap_alloc_new w _) _) _) _
  have b1 : w0.heap[N + 1]? = some (.cells #[.int .i64 a] 3 (0, 0)) := by rw [hw0, hN]; exact old_blk (old_blk (alloc_two w _ _) _) _
  have b2 : w0.heap[N + 2]? = some (.cells #[.int .i64 n] 3 (0, 0)) := by rw [hw0, hN]; exact old_blk (alloc_three w _ _ _) _
  have b3 : w0.heap[N + 3]? = some (.cells #[.int .i64 0] 24 (0, 0)) := by
    rw [hw0, hN]
    have := alloc_two ((w.alloc (.cells #[.pointer (some ⟨p, 0, none⟩)] 23)).alloc (.cells #[.int .i64 a] 3)) (.cells #[.int .i64 n] 3) (.cells #[.int .i64 0] 24)
    simpa using this
  have B3 := Aside0.mk b3
  have c0 := blk_cell b0 (i := 0) rfl
  have c1 := blk_cell b1 (i := 0) rfl
  have c2 := blk_cell b2 (i := 0) rfl
  have c3 : w0.drew.cell? ⟨N + 3, 0, none⟩ = some (.int .i64 0) := blk_cell b3 (i := 0) rfl
  have f3 : w0.drew.frozen? ⟨N + 3, 0, none⟩ = false := blk_free b3 0
  have cp := bel_cellB HBW0.out cU
  have hb0 : decide (n < 1) = false := by simp; omega
  have hb1 : decide (a < 0) = false := by simp; omega
  have hb2 : decide ((U : Int) < n) = true := by simp; omega
  clear hw0 b0 b1 b2 b3 cU
  rw [← hN]
  clear hN
  refine Ystart_ (m := 24) (S := fun w' => w'.cell? ⟨N, 0, none⟩ = some (.pointer (some ⟨p, 0, none⟩)) ∧ w'.cell? ⟨N + 1, 0, none⟩ = some (.int .i64 a) ∧ w'.cell? ⟨N + 2, 0, none⟩ = some (.int .i64 n) ∧ w'.cell? ⟨p, 0, none⟩ = some (.int .i64 (U : Int))) (ds := []) #[false, false, false, false, false, false, false, false, false, false, false, false, false, false, false, false, false, false, false, false, false, false, false, false] (by kernel_rfl) rfl rfl (fun _ => trivial) (by kernel_rfl) ⟨c0, c1, c2, cp⟩ (fun hHeld => ?_)
  refine Ytake_ (i := 0) (N := some 9) (v := ?_) (a' := ?_) #[true, false, false, false, false, false, false, false, false, false, false, false, false, false, false, false, false, false, false, false, false, false, false, false] rfl rfl (by kernel_rfl) (fun _ _ _ h => h) (Or.inl ⟨by rfl, ?_⟩) hHeld ?_ ?_
  rotate_left
  · rintro w' ⟨s0, s1, s2, s3⟩
    go_simp
    with_reducible rfl
  rotate_left
  · simp only [Act.put, List.setIfInBounds_toArray, List.set_cons_zero, List.set_cons_succ, i64_w, i32_w]
    rfl
  refine Ypure_ (i := 1) (N := some 10) (v := ?_) (a' := ?_) #[true, true, false, false, false, false, false, false, false, false, false, false, false, false, false, false, false, false, false, false, false, false, false, false] rfl rfl (by kernel_rfl) (fun _ _ _ h => h) (Or.inl ⟨by rfl, ?_⟩) ?_ ?_
  rotate_left
  · intro w'
    go_simp
    with_reducible rfl
  rotate_left
  · simp only [Act.put, List.setIfInBounds_toArray, List.set_cons_zero, List.set_cons_succ, i64_w, i32_w]
    rfl
  refine Ypure_ (i := 2) (N := some 11) (v := ?_) (a' := ?_) #[true, true, true, false, false, false, false, false, false, false, false, false, false, false, false, false, false, false, false, false, false, false, false, false] rfl rfl (by kernel_rfl) (fun _ _ _ h => h) (Or.inl ⟨by rfl, ?_⟩) ?_ ?_
  rotate_left
  · intro w'
    go_simp
    with_reducible rfl
  rotate_left
  · simp only [Act.put, List.setIfInBounds_toArray, List.set_cons_zero, List.set_cons_succ, i64_w, i32_w]
    rfl
  refine Ytake_ (i := 3) (N := some 12) (v := ?_) (a' := ?_) #[true, true, true, true, false, false, false, false, false, false, false, false, false, false, false, false, false, false, false, false, false, false, false, false] rfl rfl (by kernel_rfl) (fun _ _ _ h => h) (Or.inl ⟨by rfl, ?_⟩) hHeld ?_ ?_
  rotate_left
  · rintro w' ⟨s0, s1, s2, s3⟩
    go_simp
    with_reducible rfl
  rotate_left
  · simp only [Act.put, List.setIfInBounds_toArray, List.set_cons_zero, List.set_cons_succ, i64_w, i32_w]
    rfl
  refine Ypure_ (i := 4) (N := some 13) (v := ?_) (a' := ?_) #[true, true, true, true, true, false, false, false, false, false, false, false, false, false, false, false, false, false, false, false, false, false, false, false] rfl rfl (by kernel_rfl) (fun _ _ _ h => h) (Or.inl ⟨by rfl, ?_⟩) ?_ ?_
  rotate_left
  · intro w'
    go_simp
    with_reducible rfl
  rotate_left
  · simp only [Act.put, List.setIfInBounds_toArray, List.set_cons_zero, List.set_cons_succ, i64_w, i32_w]
    rfl
  refine Ypure_ (i := 5) (N := some 14) (v := ?_) (a' := ?_) #[true, true, true, true, true, true, false, false, false, false, false, false, false, false, false, false, false, false, false, false, false, false, false, false] rfl rfl (by kernel_rfl) (fun _ _ _ h => h) (Or.inl ⟨by rfl, ?_⟩) ?_ ?_
  rotate_left
  · intro w'
    go_simp
    with_reducible rfl
  rotate_left
  · simp only [Act.put, List.setIfInBounds_toArray, List.set_cons_zero, List.set_cons_succ, i64_w, i32_w]
    rfl
  refine Ypure_ (i := 6) (N := some 15) (v := ?_) (a' := ?_) #[true, true, true, true, true, true, true, false, false, false, false, false, false, false, false, false, false, false, false, false, false, false, false, false] rfl rfl (by kernel_rfl) (fun _ _ _ h => h) (Or.inl ⟨by rfl, ?_⟩) ?_ ?_
  rotate_left
  · intro w'
    go_simp
    with_reducible rfl
  rotate_left
  · simp only [Act.put, List.setIfInBounds_toArray, List.set_cons_zero, List.set_cons_succ, i64_w, i32_w]
    rfl
  refine Ytake_ (i := 7) (N := some 16) (v := ?_) (a' := ?_) #[true, true, true, true, true, true, true, true, false, false, false, false, false, false, false, false, false, false, false, false, false, false, false, false] rfl rfl (by kernel_rfl) (fun _ _ _ h => h) (Or.inl ⟨by rfl, ?_⟩) hHeld ?_ ?_
  rotate_left
  · rintro w' ⟨s0, s1, s2, s3⟩
    go_simp
    with_reducible rfl
  rotate_left
  · simp only [Act.put, List.setIfInBounds_toArray, List.set_cons_zero, List.set_cons_succ, i64_w, i32_w]
    rfl
  refine Ytake_ (i := 8) (N := some 17) (v := ?_) (a' := ?_) #[true, true, true, true, true, true, true, true, true, false, false, false, false, false, false, false, false, false, false, false, false, false, false, false] rfl rfl (by kernel_rfl) (fun _ _ _ h => h) (Or.inl ⟨by rfl, ?_⟩) hHeld ?_ ?_
  rotate_left
  · rintro w' ⟨s0, s1, s2, s3⟩
    go_simp
    with_reducible rfl
  rotate_left
  · simp only [Act.put, List.setIfInBounds_toArray, List.set_cons_zero, List.set_cons_succ, i64_w, i32_w]
    rfl
  refine Ypure_ (i := 9) (N := some 18) (v := ?_) (a' := ?_) #[true, true, true, true, true, true, true, true, true, true, false, false, false, false, false, false, false, false, false, false, false, false, false, false] rfl rfl (by kernel_rfl) (fun _ _ _ h => h) (Or.inl ⟨by rfl, ?_⟩) ?_ ?_
  rotate_left
  · intro w'
    go_simp
    with_reducible rfl
  rotate_left
  · simp only [Act.put, List.setIfInBounds_toArray, List.set_cons_zero, List.set_cons_succ, i64_w, i32_w]
    rfl
  refine Ypure_ (i := 10) (N := some 19) (v := ?_) (a' := ?_) #[true, true, true, true, true, true, true, true, true, true, true, false, false, false, false, false, false, false, false, false, false, false, false, false] rfl rfl (by kernel_rfl) (fun _ _ _ h => h) (Or.inl ⟨by rfl, ?_⟩) ?_ ?_
  rotate_left
  · intro w'
    go_simp
    with_reducible rfl
  rotate_left
  · simp only [Act.put, List.setIfInBounds_toArray, List.set_cons_zero, List.set_cons_succ, i64_w, i32_w]
    rfl
  refine Ytake_ (i := 11) (N := some 20) (v := ?_) (a' := ?_) #[true, true, true, true, true, true, true, true, true, true, true, true, false, false, false, false, false, false, false, false, false, false, false, false] rfl rfl (by kernel_rfl) (fun _ _ _ h => h) (Or.inl ⟨by rfl, ?_⟩) hHeld ?_ ?_
  rotate_left
  · rintro w' ⟨s0, s1, s2, s3⟩
    go_simp
    with_reducible rfl
  rotate_left
  · simp only [Act.put, List.setIfInBounds_toArray, List.set_cons_zero, List.set_cons_succ, i64_w, i32_w]
    rfl
  refine Ypure_ (i := 12) (N := some 21) (v := ?_) (a' := ?_) #[true, true, true, true, true, true, true, true, true, true, true, true, true, false, false, false, false, false, false, false, false, false, false, false] rfl rfl (by kernel_rfl) (fun _ _ _ h => h) (Or.inl ⟨by rfl, ?_⟩) ?_ ?_
  rotate_left
  · intro w'
    go_simp
    with_reducible rfl
  rotate_left
  · simp only [Act.put, List.setIfInBounds_toArray, List.set_cons_zero, List.set_cons_succ, i64_w, i32_w]
    rfl
  refine Ypure_ (i := 13) (N := some 22) (v := ?_) (a' := ?_) #[true, true, true, true, true, true, true, true, true, true, true, true, true, true, false, false, false, false, false, false, false, false, false, false] rfl rfl (by kernel_rfl) (fun _ _ _ h => h) (Or.inl ⟨by rfl, ?_⟩) ?_ ?_
  rotate_left
  · intro w'
    go_simp
    with_reducible rfl
  rotate_left
  · simp only [Act.put, List.setIfInBounds_toArray, List.set_cons_zero, List.set_cons_succ, i64_w, i32_w]
    rfl
  refine Ypure_ (i := 14) (N := some 23) (v := ?_) (a' := ?_) #[true, true, true, true, true, true, true, true, true, true, true, true, true, true, true, false, false, false, false, false, false, false, false, false] rfl rfl (by kernel_rfl) (fun _ _ _ h => h) (Or.inl ⟨by rfl, ?_⟩) ?_ ?_
  rotate_left
  · intro w'
    go_simp
    with_reducible rfl
  rotate_left
  · simp only [Act.put, List.setIfInBounds_toArray, List.set_cons_zero, List.set_cons_succ, i64_w, i32_w]
    rfl
  refine Ypure_ (i := 15) (N := some 24) (v := undef) (a' := ?_) #[true, true, true, true, true, true, true, true, true, true, true, true, true, true, true, true, false, false, false, false, false, false, false, false] rfl rfl (by kernel_rfl) (fun _ _ _ h => h) (Or.inr ⟨by rfl, rfl⟩) ?_ ?_
  rotate_left
  · simp only [Act.put, List.setIfInBounds_toArray, List.set_cons_zero, List.set_cons_succ, i64_w, i32_w]
    rfl
  refine Ypure_ (i := 16) (N := some 25) (v := undef) (a' := ?_) #[true, true, true, true, true, true, true, true, true, true, true, true, true, true, true, true, true, false, false, false, false, false, false, false] rfl rfl (by kernel_rfl) (fun _ _ _ h => h) (Or.inr ⟨by rfl, rfl⟩) ?_ ?_
  rotate_left
  · simp only [Act.put, List.setIfInBounds_toArray, List.set_cons_zero, List.set_cons_succ, i64_w, i32_w]
    rfl
  refine Ypure_ (i := 17) (N := some 26) (v := undef) (a' := ?_) #[true, true, true, true, true, true, true, true, true, true, true, true, true, true, true, true, true, true, false, false, false, false, false, false] rfl rfl (by kernel_rfl) (fun _ _ _ h => h) (Or.inr ⟨by rfl, rfl⟩) ?_ ?_
  rotate_left
  · simp only [Act.put, List.setIfInBounds_toArray, List.set_cons_zero, List.set_cons_succ, i64_w, i32_w]
    rfl
  refine Ypure_ (i := 18) (N := some 27) (v := undef) (a' := ?_) #[true, true, true, true, true, true, true, true, true, true, true, true, true, true, true, true, true, true, true, false, false, false, false, false] rfl rfl (by kernel_rfl) (fun _ _ _ h => h) (Or.inr ⟨by rfl, rfl⟩) ?_ ?_
  rotate_left
  · simp only [Act.put, List.setIfInBounds_toArray, List.set_cons_zero, List.set_cons_succ, i64_w, i32_w]
    rfl
  refine Ypure_ (i := 19) (N := some 28) (v := undef) (a' := ?_) #[true, true, true, true, true, true, true, true, true, true, true, true, true, true, true, true, true, true, true, true, false, false, false, false] rfl rfl (by kernel_rfl) (fun _ _ _ h => h) (Or.inr ⟨by rfl, rfl⟩) ?_ ?_
  rotate_left
  · simp only [Act.put, List.setIfInBounds_toArray, List.set_cons_zero, List.set_cons_succ, i64_w, i32_w]
    rfl
  refine Ypure_ (i := 20) (N := some 29) (v := undef) (a' := ?_) #[true, true, true, true, true, true, true, true, true, true, true, true, true, true, true, true, true, true, true, true, true, false, false, false] rfl rfl (by kernel_rfl) (fun _ _ _ h => h) (Or.inr ⟨by rfl, rfl⟩) ?_ ?_
  rotate_left
  · simp only [Act.put, List.setIfInBounds_toArray, List.set_cons_zero, List.set_cons_succ, i64_w, i32_w]
    rfl
  refine Ypure_ (i := 21) (N := some 30) (v := undef) (a' := ?_) #[true, true, true, true, true, true, true, true, true, true, true, true, true, true, true, true, true, true, true, true, true, true, false, false] rfl rfl (by kernel_rfl) (fun _ _ _ h => h) (Or.inr ⟨by rfl, rfl⟩) ?_ ?_
  rotate_left
  · simp only [Act.put, List.setIfInBounds_toArray, List.set_cons_zero, List.set_cons_succ, i64_w, i32_w]
    rfl
  refine Ypure_ (i := 22) (N := some 31) (v := undef) (a' := ?_) #[true, true, true, true, true, true, true, true, true, true, true, true, true, true, true, true, true, true, true, true, true, true, true, false] rfl rfl (by kernel_rfl) (fun _ _ _ h => h) (Or.inr ⟨by rfl, rfl⟩) ?_ ?_
  rotate_left
  · simp only [Act.put, List.setIfInBounds_toArray, List.set_cons_zero, List.set_cons_succ, i64_w, i32_w]
    rfl
  refine Ypure_ (i := 23) (N := some 32) (v := ?_) (a' := ?_) #[true, true, true, true, true, true, true, true, true, true, true, true, true, true, true, true, true, true, true, true, true, true, true, true] rfl rfl (by kernel_rfl) (fun _ _ _ h => h) (Or.inl ⟨by rfl, ?_⟩) ?_ ?_
  rotate_left
  · intro w'
    go_simp
    with_reducible rfl
  rotate_left
  · simp only [Act.put, List.setIfInBounds_toArray, List.set_cons_zero, List.set_cons_succ, i64_w, i32_w]
    rfl
  refine Ydone_ (by kernel_rfl) ?_
  gi_wp2
  have hn := HN.out
  refine bodyPost_ret (results_c1 rfl _ _ (N + 3) (v := .int .i64 1) (t := 24) (fr := (0, 0)) _ rfl ?_ Try.underlying24 rfl) rfl ?_
  · have h' : (w0.setCell ⟨N + 3, 0, none⟩ (.int .i64 1)).heap[N + 3]? = some (.cells #[.int .i64 1] 24 (0, 0)) := by
      have := blk_set B3.out 0 (.int .i64 1)
      simpa using this
    exact h'
  · rw [HPO.out]
    exact ⟨rfl, HBW0.out.drew.setCell (p := ⟨N + 3, 0, none⟩) (by rw [hn]; simp only; omega) _⟩
set_option maxRecDepth 100000 in
set_option maxHeartbeats 4000000 in
theorem claim_b4 (w : World) (p s U : Nat) (bs : List Pc) (h : HasB w p s U bs) (a n : Int) (hn : ¬ n < 1) (ha : ¬ a < 0) (hu : ¬ (U : Int) < n) (hd : (U : Int) - n < a) : Calls Try.prog 22 #[.pointer (some ⟨p, 0, none⟩), .int .i64 a, .int .i64 n] w fun e w' => e = .returned (.int .i64 1) ∧ Below w.heap.size w w' := by
  have cU := h.c0
  have hmU := h.max
  obtain ⟨Po, hPo⟩ : ∃ Po, Po = fun (e : Ending) w' => e = .returned (.int .i64 1) ∧ Below w.heap.size w w' := ⟨_, rfl⟩
  have HPO := Aside0.mk hPo
  rw [← hPo]
  clear h hPo
  refine (callsIn_wide (n := 15)).1 ?_
  refine callsIn_of_wp Try.func22 rfl trivial ?_ rfl
  simp only [Try.ntmps22, List.size_toArray, List.length_cons, List.length_nil, Nat.reduceAdd, Nat.reduceSub, Array.replicate_succ, Array.replicate_zero, List.push_toArray, List.append_toArray, List.nil_append, List.cons_append]
  gi_wp2
  obtain ⟨w0, hw0⟩ : ∃ w0, w0 = ((((w.alloc (.cells #[.pointer (some ⟨p, 0, none⟩)] 23)).alloc (.cells #[.int .i64 a] 3)).alloc (.cells #[.int .i64 n] 3)).alloc (.cells #[.int .i64 0] 24)) := ⟨_, rfl⟩
  rw [← hw0]
  obtain ⟨N, hN⟩ : ∃ N, N = w.heap.size := ⟨_, rfl⟩
  have HN := Aside0.mk hN
  have HBW0 := Aside0.mk (show Below w.heap.size w w0 by rw [hw0]; exact below_alloc (below_alloc (below_alloc (below_alloc (Below.refl _ _) _) _) _) _)
  have b0 : w0.heap[N]? = some (.cells #[.pointer (some ⟨p, 0, none⟩)] 23 (0, 0)) := by rw [hw0, hN]; exact old_blk (old_blk (old_blk (heap_alloc_new w _) _) _) _
  have b1 : w0.heap[N + 1]? = some (.cells #[.int .i64 a] 3 (0, 0)) := by rw [hw0, hN]; exact old_blk (old_blk (alloc_two w _ _) _) _
  have b2 : w0.heap[N + 2]? = some (.cells #[.int .i64 n] 3 (0, 0)) := by rw [hw0, hN]; exact old_blk (alloc_three w _ _ _) _
  have b3 : w0.heap[N + 3]? = some (.cells #[.int .i64 0] 24 (0, 0)) := by
    rw [hw0, hN]
    have := alloc_two ((w.alloc (.cells #[.pointer (some ⟨p, 0, none⟩)] 23)).alloc (.cells #[.int .i64 a] 3)) (.cells #[.int .i64 n] 3) (.cells #[.int .i64 0] 24)
    simpa using this
  have B3 := Aside0.mk b3
  have c0 := blk_cell b0 (i := 0) rfl
  have c1 := blk_cell b1 (i := 0) rfl
  have c2 := blk_cell b2 (i := 0) rfl
  have c3 : w0.drew.cell? ⟨N + 3, 0, none⟩ = some (.int .i64 0) := blk_cell b3 (i := 0) rfl
  have f3 : w0.drew.frozen? ⟨N + 3, 0, none⟩ = false := blk_free b3 0
  have cp := bel_cellB HBW0.out cU
  have hb0 : decide (n < 1) = false := by simp; omega
  have hb1 : decide (a < 0) = false := by simp; omega
  have hb2 : decide ((U : Int) < n) = false := by simp; omega
  have hb3 : decide ((U : Int) - n < a) = true := by simp; omega
  have hwi : IntKind.i64.wrap ((U : Int) - n) = (U : Int) - n := IntWalk.i64_in _ (by omega)
  clear hw0 b0 b1 b2 b3 cU
  rw [← hN]
  clear hN
  refine Ystart_ (m := 24) (S := fun w' => w'.cell? ⟨N, 0, none⟩ = some (.pointer (some ⟨p, 0, none⟩)) ∧ w'.cell? ⟨N + 1, 0, none⟩ = some (.int .i64 a) ∧ w'.cell? ⟨N + 2, 0, none⟩ = some (.int .i64 n) ∧ w'.cell? ⟨p, 0, none⟩ = some (.int .i64 (U : Int))) (ds := []) #[false, false, false, false, false, false, false, false, false, false, false, false, false, false, false, false, false, false, false, false, false, false, false, false] (by kernel_rfl) rfl rfl (fun _ => trivial) (by kernel_rfl) ⟨c0, c1, c2, cp⟩ (fun hHeld => ?_)
  refine Ytake_ (i := 0) (N := some 9) (v := ?_) (a' := ?_) #[true, false, false, false, false, false, false, false, false, false, false, false, false, false, false, false, false, false, false, false, false, false, false, false] rfl rfl (by kernel_rfl) (fun _ _ _ h => h) (Or.inl ⟨by rfl, ?_⟩) hHeld ?_ ?_
  rotate_left
  · rintro w' ⟨s0, s1, s2, s3⟩
    go_simp
    with_reducible rfl
  rotate_left
  · simp only [Act.put, List.setIfInBounds_toArray, List.set_cons_zero, List.set_cons_succ, i64_w, i32_w]
    rfl
  refine Ypure_ (i := 1) (N := some 10) (v := ?_) (a' := ?_) #[true, true, false, false, false, false, false, false, false, false, false, false, false, false, false, false, false, false, false, false, false, false, false, false] rfl rfl (by kernel_rfl) (fun _ _ _ h => h) (Or.inl ⟨by rfl, ?_⟩) ?_ ?_
  rotate_left
  · intro w'
    go_simp
    with_reducible rfl
  rotate_left
  · simp only [Act.put, List.setIfInBounds_toArray, List.set_cons_zero, List.set_cons_succ, i64_w, i32_w]
    rfl
  refine Ypure_ (i := 2) (N := some 11) (v := ?_) (a' := ?_) #[true, true, true, false, false, false, false, false, false, false, false, false, false, false, false, false, false, false, false, false, false, false, false, false] rfl rfl (by kernel_rfl) (fun _ _ _ h => h) (Or.inl ⟨by rfl, ?_⟩) ?_ ?_
  rotate_left
  · intro w'
    go_simp
    with_reducible rfl
  rotate_left
  · simp only [Act.put, List.setIfInBounds_toArray, List.set_cons_zero, List.set_cons_succ, i64_w, i32_w]
    rfl
  refine Ytake_ (i := 3) (N := some 12) (v := ?_) (a' := ?_) #[true, true, true, true, false, false, false, false, false, false, false, false, false, false, false, false, false, false, false, false, false, false, false, false] rfl rfl (by kernel_rfl) (fun _ _ _ h => h) (Or.inl ⟨by rfl, ?_⟩) hHeld ?_ ?_
  rotate_left
  · rintro w' ⟨s0, s1, s2, s3⟩
    go_simp
    with_reducible rfl
  rotate_left
  · simp only [Act.put, List.setIfInBounds_toArray, List.set_cons_zero, List.set_cons_succ, i64_w, i32_w]
    rfl
  refine Ypure_ (i := 4) (N := some 13) (v := ?_) (a' := ?_) #[true, true, true, true, true, false, false, false, false, false, false, false, false, false, false, false, false, false, false, false, false, false, false, false] rfl rfl (by kernel_rfl) (fun _ _ _ h => h) (Or.inl ⟨by rfl, ?_⟩) ?_ ?_
  rotate_left
  · intro w'
    go_simp
    with_reducible rfl
  rotate_left
  · simp only [Act.put, List.setIfInBounds_toArray, List.set_cons_zero, List.set_cons_succ, i64_w, i32_w]
    rfl
  refine Ypure_ (i := 5) (N := some 14) (v := ?_) (a' := ?_) #[true, true, true, true, true, true, false, false, false, false, false, false, false, false, false, false, false, false, false, false, false, false, false, false] rfl rfl (by kernel_rfl) (fun _ _ _ h => h) (Or.inl ⟨by rfl, ?_⟩) ?_ ?_
  rotate_left
  · intro w'
    go_simp
    with_reducible rfl
  rotate_left
  · simp only [Act.put, List.setIfInBounds_toArray, List.set_cons_zero, List.set_cons_succ, i64_w, i32_w]
    rfl
  refine Ypure_ (i := 6) (N := some 15) (v := ?_) (a' := ?_) #[true, true, true, true, true, true, true, false, false, false, false, false, false, false, false, false, false, false, false, false, false, false, false, false] rfl rfl (by kernel_rfl) (fun _ _ _ h => h) (Or.inl ⟨by rfl, ?_⟩) ?_ ?_
  rotate_left
  · intro w'
    go_simp
    with_reducible rfl
  rotate_left
  · simp only [Act.put, List.setIfInBounds_toArray, List.set_cons_zero, List.set_cons_succ, i64_w, i32_w]
    rfl
  refine Ytake_ (i := 7) (N := some 16) (v := ?_) (a' := ?_) #[true, true, true, true, true, true, true, true, false, false, false, false, false, false, false, false, false, false, false, false, false, false, false, false] rfl rfl (by kernel_rfl) (fun _ _ _ h => h) (Or.inl ⟨by rfl, ?_⟩) hHeld ?_ ?_
  rotate_left
  · rintro w' ⟨s0, s1, s2, s3⟩
    go_simp
    with_reducible rfl
  rotate_left
  · simp only [Act.put, List.setIfInBounds_toArray, List.set_cons_zero, List.set_cons_succ, i64_w, i32_w]
    rfl
  refine Ytake_ (i := 8) (N := some 17) (v := ?_) (a' := ?_) #[true, true, true, true, true, true, true, true, true, false, false, false, false, false, false, false, false, false, false, false, false, false, false, false] rfl rfl (by kernel_rfl) (fun _ _ _ h => h) (Or.inl ⟨by rfl, ?_⟩) hHeld ?_ ?_
  rotate_left
  · rintro w' ⟨s0, s1, s2, s3⟩
    go_simp
    with_reducible rfl
  rotate_left
  · simp only [Act.put, List.setIfInBounds_toArray, List.set_cons_zero, List.set_cons_succ, i64_w, i32_w]
    rfl
  refine Ypure_ (i := 9) (N := some 18) (v := ?_) (a' := ?_) #[true, true, true, true, true, true, true, true, true, true, false, false, false, false, false, false, false, false, false, false, false, false, false, false] rfl rfl (by kernel_rfl) (fun _ _ _ h => h) (Or.inl ⟨by rfl, ?_⟩) ?_ ?_
  rotate_left
  · intro w'
    go_simp
    with_reducible rfl
  rotate_left
  · simp only [Act.put, List.setIfInBounds_toArray, List.set_cons_zero, List.set_cons_succ, i64_w, i32_w]
    rfl
  refine Ypure_ (i := 10) (N := some 19) (v := ?_) (a' := ?_) #[true, true, true, true, true, true, true, true, true, true, true, false, false, false, false, false, false, false, false, false, false, false, false, false] rfl rfl (by kernel_rfl) (fun _ _ _ h => h) (Or.inl ⟨by rfl, ?_⟩) ?_ ?_
  rotate_left
  · intro w'
    go_simp
    with_reducible rfl
  rotate_left
  · simp only [Act.put, List.setIfInBounds_toArray, List.set_cons_zero, List.set_cons_succ, i64_w, i32_w]
    rfl
  refine Ytake_ (i := 11) (N := some 20) (v := ?_) (a' := ?_) #[true, true, true, true, true, true, true, true, true, true, true, true, false, false, false, false, false, false, false, false, false, false, false, false] rfl rfl (by kernel_rfl) (fun _ _ _ h => h) (Or.inl ⟨by rfl, ?_⟩) hHeld ?_ ?_
  rotate_left
  · rintro w' ⟨s0, s1, s2, s3⟩
    go_simp
    with_reducible rfl
  rotate_left
  · simp only [Act.put, List.setIfInBounds_toArray, List.set_cons_zero, List.set_cons_succ, i64_w, i32_w]
    rfl
  refine Ypure_ (i := 12) (N := some 21) (v := ?_) (a' := ?_) #[true, true, true, true, true, true, true, true, true, true, true, true, true, false, false, false, false, false, false, false, false, false, false, false] rfl rfl (by kernel_rfl) (fun _ _ _ h => h) (Or.inl ⟨by rfl, ?_⟩) ?_ ?_
  rotate_left
  · intro w'
    go_simp
    with_reducible rfl
  rotate_left
  · simp only [Act.put, List.setIfInBounds_toArray, List.set_cons_zero, List.set_cons_succ, i64_w, i32_w]
    rfl
  refine Ypure_ (i := 13) (N := some 22) (v := ?_) (a' := ?_) #[true, true, true, true, true, true, true, true, true, true, true, true, true, true, false, false, false, false, false, false, false, false, false, false] rfl rfl (by kernel_rfl) (fun _ _ _ h => h) (Or.inl ⟨by rfl, ?_⟩) ?_ ?_
  rotate_left
  · intro w'
    go_simp
    with_reducible rfl
  rotate_left
  · simp only [Act.put, List.setIfInBounds_toArray, List.set_cons_zero, List.set_cons_succ, i64_w, i32_w]
    rfl
  refine Ypure_ (i := 14) (N := some 23) (v := ?_) (a' := ?_) #[true, true, true, true, true, true, true, true, true, true, true, true, true, true, true, false, false, false, false, false, false, false, false, false] rfl rfl (by kernel_rfl) (fun _ _ _ h => h) (Or.inl ⟨by rfl, ?_⟩) ?_ ?_
  rotate_left
  · intro w'
    go_simp
    with_reducible rfl
  rotate_left
  · simp only [Act.put, List.setIfInBounds_toArray, List.set_cons_zero, List.set_cons_succ, i64_w, i32_w]
    rfl
  refine Ytake_ (i := 15) (N := some 24) (v := ?_) (a' := ?_) #[true, true, true, true, true, true, true, true, true, true, true, true, true, true, true, true, false, false, false, false, false, false, false, false] rfl rfl (by kernel_rfl) (fun _ _ _ h => h) (Or.inl ⟨by rfl, ?_⟩) hHeld ?_ ?_
  rotate_left
  · rintro w' ⟨s0, s1, s2, s3⟩
    go_simp
    with_reducible rfl
  rotate_left
  · simp only [Act.put, List.setIfInBounds_toArray, List.set_cons_zero, List.set_cons_succ, i64_w, i32_w]
    rfl
  refine Ytake_ (i := 16) (N := some 25) (v := ?_) (a' := ?_) #[true, true, true, true, true, true, true, true, true, true, true, true, true, true, true, true, true, false, false, false, false, false, false, false] rfl rfl (by kernel_rfl) (fun _ _ _ h => h) (Or.inl ⟨by rfl, ?_⟩) hHeld ?_ ?_
  rotate_left
  · rintro w' ⟨s0, s1, s2, s3⟩
    go_simp
    with_reducible rfl
  rotate_left
  · simp only [Act.put, List.setIfInBounds_toArray, List.set_cons_zero, List.set_cons_succ, i64_w, i32_w]
    rfl
  refine Ypure_ (i := 17) (N := some 26) (v := ?_) (a' := ?_) #[true, true, true, true, true, true, true, true, true, true, true, true, true, true, true, true, true, true, false, false, false, false, false, false] rfl rfl (by kernel_rfl) (fun _ _ _ h => h) (Or.inl ⟨by rfl, ?_⟩) ?_ ?_
  rotate_left
  · intro w'
    go_simp
    with_reducible rfl
  rotate_left
  · simp only [Act.put, List.setIfInBounds_toArray, List.set_cons_zero, List.set_cons_succ, i64_w, i32_w]
    rfl
  refine Ypure_ (i := 18) (N := some 27) (v := ?_) (a' := ?_) #[true, true, true, true, true, true, true, true, true, true, true, true, true, true, true, true, true, true, true, false, false, false, false, false] rfl rfl (by kernel_rfl) (fun _ _ _ h => h) (Or.inl ⟨by rfl, ?_⟩) ?_ ?_
  rotate_left
  · intro w'
    go_simp
    with_reducible rfl
  rotate_left
  · simp only [Act.put, List.setIfInBounds_toArray, List.set_cons_zero, List.set_cons_succ, i64_w, i32_w]
    rfl
  refine Ytake_ (i := 19) (N := some 28) (v := ?_) (a' := ?_) #[true, true, true, true, true, true, true, true, true, true, true, true, true, true, true, true, true, true, true, true, false, false, false, false] rfl rfl (by kernel_rfl) (fun _ _ _ h => h) (Or.inl ⟨by rfl, ?_⟩) hHeld ?_ ?_
  rotate_left
  · rintro w' ⟨s0, s1, s2, s3⟩
    go_simp
    with_reducible rfl
  rotate_left
  · simp only [Act.put, List.setIfInBounds_toArray, List.set_cons_zero, List.set_cons_succ, i64_w, i32_w]
    rfl
  refine Ytake_ (i := 20) (N := some 29) (v := ?_) (a' := ?_) #[true, true, true, true, true, true, true, true, true, true, true, true, true, true, true, true, true, true, true, true, true, false, false, false] rfl rfl (by kernel_rfl) (fun _ _ _ h => h) (Or.inl ⟨by rfl, ?_⟩) hHeld ?_ ?_
  rotate_left
  · rintro w' ⟨s0, s1, s2, s3⟩
    go_simp
    with_reducible rfl
  rotate_left
  · simp only [Act.put, List.setIfInBounds_toArray, List.set_cons_zero, List.set_cons_succ, i64_w, i32_w]
    rfl
  refine Ypure_ (i := 21) (N := some 30) (v := ?_) (a' := ?_) #[true, true, true, true, true, true, true, true, true, true, true, true, true, true, true, true, true, true, true, true, true, true, false, false] rfl rfl (by kernel_rfl) (fun _ _ _ h => h) (Or.inl ⟨by rfl, ?_⟩) ?_ ?_
  rotate_left
  · intro w'
    go_simp
    with_reducible rfl
  rotate_left
  · simp only [Act.put, List.setIfInBounds_toArray, List.set_cons_zero, List.set_cons_succ, i64_w, i32_w]
    rfl
  refine Ypure_ (i := 22) (N := some 31) (v := ?_) (a' := ?_) #[true, true, true, true, true, true, true, true, true, true, true, true, true, true, true, true, true, true, true, true, true, true, true, false] rfl rfl (by kernel_rfl) (fun _ _ _ h => h) (Or.inl ⟨by rfl, ?_⟩) ?_ ?_
  rotate_left
  · intro w'
    go_simp
    with_reducible rfl
  rotate_left
  · simp only [Act.put, List.setIfInBounds_toArray, List.set_cons_zero, List.set_cons_succ, i64_w, i32_w]
    rfl
  refine Ypure_ (i := 23) (N := some 32) (v := ?_) (a' := ?_) #[true, true, true, true, true, true, true, true, true, true, true, true, true, true, true, true, true, true, true, true, true, true, true, true] rfl rfl (by kernel_rfl) (fun _ _ _ h => h) (Or.inl ⟨by rfl, ?_⟩) ?_ ?_
  rotate_left
  · intro w'
    go_simp
    with_reducible rfl
  rotate_left
  · simp only [Act.put, List.setIfInBounds_toArray, List.set_cons_zero, List.set_cons_succ, i64_w, i32_w]
    rfl
  refine Ydone_ (by kernel_rfl) ?_
  gi_wp2
  have hn := HN.out
  refine bodyPost_ret (results_c1 rfl _ _ (N + 3) (v := .int .i64 1) (t := 24) (fr := (0, 0)) _ rfl ?_ Try.underlying24 rfl) rfl ?_
  · have h' : (w0.setCell ⟨N + 3, 0, none⟩ (.int .i64 1)).heap[N + 3]? = some (.cells #[.int .i64 1] 24 (0, 0)) := by
      have := blk_set B3.out 0 (.int .i64 1)
      simpa using this
    exact h'
  · rw [HPO.out]
    exact ⟨rfl, HBW0.out.drew.setCell (p := ⟨N + 3, 0, none⟩) (by rw [hn]; simp only; omega) _⟩
theorem claim_bad (w : World) (p s U : Nat) (bs : List Pc) (h : HasB w p s U bs) (a n : Int) (hb : n < 1 ∨ a < 0 ∨ (U : Int) < n ∨ (U : Int) - n < a) : Calls Try.prog 22 #[.pointer (some ⟨p, 0, none⟩), .int .i64 a, .int .i64 n] w fun e w' => e = .returned (.int .i64 1) ∧ Below w.heap.size w w' := by
  by_cases hn : n < 1
  · exact claim_b1 w p s U bs h a n hn
  by_cases ha : a < 0
  · exact claim_b2 w p s U bs h a n hn ha
  by_cases hu : (U : Int) < n
  · exact claim_b3 w p s U bs h a n hn ha hu
  · exact claim_b4 w p s U bs h a n hn ha hu (by omega)
end Go.Proofs.Ytgendnoafemgpaa.Hand
namespace Go.Proofs.Ytgendnoafemgpaa.Hand
open Go.RowKit Go.Proofs.YtgendnoafemgpaaW.PrintWords

end Go.Proofs.Ytgendnoafemgpaa.Hand
namespace Go.Proofs.Ytgendnoafemgpaa.Hand
open Go.ChangeShapes Go.WideShapes Go.ChangeAt Go.RowKit Go.Proofs.YtgendnoafemgpaaW.PrintWords

theorem wf_i64 {n : Int} (h : (Lit.int .i64 n).wf = true) : -9223372036854775808 ≤ n ∧ n ≤ 9223372036854775807 := by
  simp only [Lit.wf, IntKind.min, IntKind.max, IntKind.signed, IntKind.bits, Bool.and_eq_true] at h
  simp at h
  omega
end Go.Proofs.Ytgendnoafemgpaa.Hand
namespace Go.Proofs.Ytgendnoafemgpaa.Hand
open Go.RowKit Go.Proofs.YtgendnoafemgpaaW.PrintWords

end Go.Proofs.Ytgendnoafemgpaa.Hand
namespace Go.Proofs.Ytgendnoafemgpaa.Hand
attribute [local go_sem] Oper.semAt_some
open Go.RowKit Go.Maps Go.Sort Go.Shelf Go.Proofs.YtgendnoafemgpaaW.PrintWords Go.Proofs.YtgendnoafemgpaaW.PrintLast
set_option linter.unusedVariables false
set_option linter.unusedSimpArgs false
theorem bk_size {w : World} {b n U : Nat} {D : DataW Value} {bs : List Pc} (hok : Chain 0 bs U) (h : w.ownsMap Try.prog 3 heldR b n D) (hf : Fits D (bkF bs)) : Maps.size D = bs.length := by
  refine Nat.le_antisymm (size_le_of_room law_intB h hf ⟨bs.map (fun q => Lit.int .i64 (q.1 : Int)), by simp, fun kl hk => ?_⟩) ?_
  · obtain ⟨k, rfl, hk0⟩ := bkF_some hk
    obtain ⟨q, hq, rfl⟩ := (longN_pos hok).1 hk0
    exact List.mem_map.2 ⟨q, hq, rfl⟩
  · obtain ⟨es, rfl, hp, hkey⟩ := h.entries law_intB
    have hnd : (bs.map (fun q => Lit.int .i64 (q.1 : Int))).Nodup := by
      have := chain_starts hok
      rw [startsI, List.pairwise_map] at this
      refine List.pairwise_map.2 (this.imp (fun h e => ?_))
      simp only [Lit.int.injEq, true_and] at e
      omega
    have := nodup_len _ (es.map (·.1)) hnd (fun x hx => by
      obtain ⟨q, hq, rfl⟩ := List.mem_map.1 hx
      have h1 := (hf (.int .i64 (q.1 : Int))).1
      rw [bkF_nat, decide_eq_true ((longN_pos hok).2 ⟨q, hq, rfl⟩), has_eq, List.any_eq_true] at h1
      obtain ⟨p, hp1, hp2⟩ := h1
      exact List.mem_map.2 ⟨p, hp1, lit_i64_same hp2⟩)
    simpa [Maps.size] using this
theorem run_lenM {w : World} {p s U : Nat} {bs : List Pc} (h : HasB w p s U bs) (ty : TypeId) : (Builtin.len_ #[56] ty #[.map (some s)]).run Try.prog w = .ok (.int .i64 (bs.length : Int)) w := by
  obtain ⟨D, hD, hf⟩ := h.map
  rw [hD.len Try.underlying56 ty, bk_size h.ok hD hf]
def encL (U : Nat) (bs : List Pc) : List Int := leB U 2 ++ leB bs.length 2
def encG (bs : List Pc) : List Int := bs.flatMap fun q => leB q.1 2 ++ leB q.2 2
theorem encG_snoc (bs : List Pc) (q : Pc) : encG (bs ++ [q]) = (encG bs ++ leB q.1 2) ++ leB q.2 2 := by simp [encG, List.flatMap_append]
theorem encG_length (bs : List Pc) : (encG bs).length = 4 * bs.length := by
  induction bs with
  | nil => rfl
  | cons q l ih => rw [encG, List.flatMap_cons, List.length_append]; rw [encG] at ih; rw [ih]; simp [leB_length]; omega
theorem fits_two {k : Nat} (h : k ≤ 1024) : fitsB (k : Int) 2 = true := by
  simp only [fitsB, rightB]
  simp
  omega
/-- A row with its block's place, and what Put makes of it. -/
theorem put_row (T T' : Nat → Prop) (v : Value) (l : List Int) (k : Nat) (w : World) (hk : k ≤ 1024) (ho : Kd.R (Kd.int .u8) 5 w 0 T v l) (hl : l.length ≤ 5000) (hT : ∀ b, T b → T' b) (hN : ∀ b, w.heap.size ≤ b → T' b) :
    Calls Try.prog 44 #[v, .int .i64 2, .int .u64 (k : Int)] w fun e w' => ∃ v' : Value, e = .returned (.tuple #[v', .bool true]) ∧ Kd.R (Kd.int .u8) 5 w' 0 T' v' (l ++ leB k 2) ∧ Fr (fun b => T b) w w' := by
  refine (put_calls T v l 2 k w ho (fits_two hk) (by omega)).mono ?_
  rintro e w' ⟨v', he, hr, hf⟩
  exact ⟨v', he, Kd.R_mono hr (fun b hb => by rcases hb with h | h; exact hT b h; exact hN b h), hf⟩
theorem R8_ref {w : World} {e base : Nat} {T T' : Nat → Prop} {v : Value} {xs : List Int} (h : Kd.R (Kd.int .u8) e w base T v xs) (h' : ∀ b, v.ownBlock = some b → b < w.heap.size → T b → T' b) : Kd.R (Kd.int .u8) e w base T' v xs := by
  refine Kd.R_of_own (Kd.own_of_R h) (fun b hb => h' b hb ?_ (h.1 b hb))
  obtain ⟨_, inner, ho, _⟩ := h
  obtain ⟨cs, hc⟩ := own_typed ho b hb
  exact (Array.getElem?_eq_some_iff.1 hc).1
theorem R8_keep {w w1 : World} {e base : Nat} {T : Nat → Prop} {v : Value} {xs : List Int} (h : Kd.R (Kd.int .u8) e w base T v xs) (hb : ∀ b, b < w.heap.size → T b → w1.heap[b]? = w.heap[b]?) : Kd.R (Kd.int .u8) e w1 base T v xs := by
  refine Kd.R_of_own (own_move (Kd.own_of_R h) (fun b hb' => hb b ?_ (h.1 b hb'))) h.1
  obtain ⟨_, inner, ho, _⟩ := h
  obtain ⟨cs, hc⟩ := own_typed ho b hb'
  exact (Array.getElem?_eq_some_iff.1 hc).1
theorem R8_itg {w w1 : World} {e base N : Nat} {T : Nat → Prop} {v : Value} {xs : List Int} (h : Kd.R (Kd.int .u8) e w base T v xs) (hg : ItG N w w1) : Kd.R (Kd.int .u8) e w1 base T v xs := by
  refine Kd.R_of_own (own_move (Kd.own_of_R h) (fun b hb' => ?_)) h.1
  obtain ⟨_, inner, ho, _⟩ := h
  obtain ⟨cs, hc⟩ := own_typed ho b hb'
  obtain ⟨row, hgr, hr⟩ := hg
  refine hgr.block b (Array.getElem?_eq_some_iff.1 hc).1 (fun e => ?_)
  obtain ⟨_, o, ho2, hcells⟩ := hr b e.symm
  rw [hc] at ho2
  cases ho2
  cases hcells
/-- What the loop over the blocks holds. -/
structure EncI (N X B : Nat) (w : World) (L2 : List Int) (bs : List Pc) (M k : Nat) (W : World) : Prop where
  ex : ∃ A c, W.heap[B]? = some (.cells #[.slice A (4 + 4 * k) c] 49 (0, 0)) ∧ Kd.R (Kd.int .u8) 5 W 0 (fun b => (N ≤ b ∧ b < X ∧ b ≠ B) ∨ M ≤ b) (.slice A (4 + 4 * k) c) (L2 ++ encG (bs.take k)) ∧ Below N w W
set_option maxRecDepth 100000 in
set_option maxHeartbeats 8000000 in
theorem encode_calls (w : World) (p s U : Nat) (bs : List Pc) (h : HasB w p s U bs) :
    Calls Try.prog 27 #[.pointer (some ⟨p, 0, none⟩)] w fun e w' => ∃ v : Value, e = .returned v ∧ Kd.R (Kd.int .u8) 5 w' 0 (fun b => w.heap.size ≤ b) v (encL U bs ++ encG bs) ∧ Below w.heap.size w w' := by
  have HH := Aside0.mk h
  have hmU := h.max
  have hbl := h.ok.le_len
  have c0 := h.c0
  have hcU : IntKind.u64.wrap (U : Int) = U := u64_wrap_of (by omega) (by omega)
  have cP := fun (w : World) (T : Nat → Prop) (v : Value) (l : List Int) (k : Nat) h1 h2 h3 h4 => callsIn_wide (n := 14).2 (put_row T T v l k w h1 h2 h3 (fun _ h => h) h4)
  have hfP : Fence.wide.fn 44 := trivial
  have cE := fun (w : World) => callsIn_wide (n := 14).2 (each_calls w p)
  have hfE : Fence.wide.fn 13 := trivial
  clear h
  refine (callsIn_wide (n := 15)).1 ?_
  refine callsIn_of_wp_marks Try.func27 rfl trivial ?_ rfl
  simp only [Try.ntmps27, List.size_toArray, List.length_cons, List.length_nil, Nat.reduceAdd, Nat.reduceSub, Array.replicate_succ, Array.replicate_zero, List.push_toArray, List.append_toArray, List.nil_append, List.cons_append]
  gi_wp2_with (gi_at_call 44; refine (cP _ (fun b => w.heap.size ≤ b) (.slice none 0 0) [] U hmU (Kd.R_nil _ _ _ _ _) (by simp) (fun _ h => h)).mono ?_; rintro e w2 ⟨v2, rfl, hr2, hf2⟩; rw [List.nil_append] at hr2; obtain ⟨A2, c2, rfl, hc2, _⟩ := Kd.R_reads hr2; have HR2 := Aside0.mk hr2; clear hc2; have HF2 := Aside0.mk hf2; clear hr2 hf2)
  have HBW2 := Aside0.mk (show Below w.heap.size w w2 from HF2.out.below _ (Nat.le_refl _) (fun b h => h))
  obtain ⟨w3, hw3⟩ : ∃ w3, w3 = w2.alloc (.cells #[.slice A2 (leB (U : Int) 2).length c2] 49) := ⟨_, rfl⟩
  rw [← hw3]
  obtain ⟨B, hB⟩ : ∃ B, B = w2.heap.size := ⟨_, rfl⟩
  obtain ⟨L1, hL1⟩ : ∃ L1, L1 = leB (U : Int) 2 := ⟨_, rfl⟩
  have HL1 := Aside0.mk hL1
  have hl1 : L1.length = 2 := by rw [hL1]; exact leB_length _ _
  have HB := Aside0.mk hB
  have hz3 : w3.heap.size = B + 1 := by rw [hw3, hB]; simp
  have HBW3 := Aside0.mk (show Below w.heap.size w w3 by rw [hw3]; exact below_alloc HBW2.out _)
  have b3 : w3.heap[B]? = some (.cells #[.slice A2 2 c2] 49 (0, 0)) := by rw [hw3, hB, ← hl1, hL1]; exact heap_alloc_new w2 _
  have HR3 := Aside0.mk (show Kd.R (Kd.int .u8) 5 w3 0 (fun b => w.heap.size ≤ b ∧ b ≠ B) (.slice A2 2 c2) L1 by
    have := HR2.out
    rw [← hL1, hl1] at this
    refine R8_keep (w := w2) (R8_ref this (fun b _ h1 h2 => ⟨h2, by omega⟩)) (fun b hb _ => ?_)
    rw [hw3]
    exact heap_alloc_old _ _ hb)
  have HB3 := Aside0.mk b3
  have d1 := blk_cell b3 (i := 0) rfl
  have d2 := bel_cellB HBW3.out HH.out.c1
  have HD3 := Aside0.mk (HH.out.below HBW3.out)
  have hlen := run_lenM (w := w3.drew) (HD3.out.same rfl rfl) 3
  have hcl : IntKind.u64.wrap (bs.length : Int) = bs.length := u64_wrap_of (by omega) (by omega)
  rw [← hL1, hl1, ← hB]
  clear hw3 hB hL1 b3
  obtain ⟨L2, hL2⟩ : ∃ L2, L2 = L1 ++ leB (bs.length : Int) 2 := ⟨_, rfl⟩
  have hl2 : L2.length = 4 := by rw [hL2, List.length_append, hl1, leB_length]
  have HL2 := Aside0.mk (show L2 = encL U bs by rw [hL2, HL1.out]; rfl)
  have hcp := put_row (fun b => w.heap.size ≤ b ∧ b ≠ B) (fun b => w.heap.size ≤ b ∧ b ≠ B) (.slice A2 2 c2) L1 bs.length w3.drew (by omega) (R8_keep HR3.out (fun _ _ _ => rfl)) (by omega) (fun _ h => h) (fun b hb => ⟨Nat.le_trans HBW3.out.size hb, by have h2 : w3.heap.size ≤ b := hb; omega⟩)
  rw [← hL2] at hcp
  have HCP := Aside0.mk hcp
  clear hcp hL2
  refine Ystart_ (m := 12) (S := fun w' => w'.cell? ⟨B, 0, none⟩ = some (.slice A2 2 c2) ∧ w'.cell? ⟨p, 1, none⟩ = some (.map (some s))) (ds := [7, 11]) #[false, false, false, false, false, false, false, false, false, false, false, false] (by kernel_rfl) rfl rfl (fun _ => trivial) (by kernel_rfl) ⟨d1, d2⟩ (fun hHeld => ?_)
  refine Ypure_ (i := 1) (N := some 18) (v := ?_) (a' := ?_) #[false, true, false, false, false, false, false, false, false, false, false, false] rfl rfl (by kernel_rfl) (fun _ _ _ h => h) (Or.inl ⟨by rfl, ?_⟩) ?_ ?_
  rotate_left
  · intro w'
    go_simp
    with_reducible rfl
  rotate_left
  · simp only [Act.put, List.setIfInBounds_toArray, List.set_cons_zero, List.set_cons_succ, i64_w, i32_w]
    rfl
  refine Ypure_ (i := 2) (N := some 19) (v := ?_) (a' := ?_) #[false, true, true, false, false, false, false, false, false, false, false, false] rfl rfl (by kernel_rfl) (fun _ _ _ h => h) (Or.inl ⟨by rfl, ?_⟩) ?_ ?_
  rotate_left
  · intro w'
    go_simp
    with_reducible rfl
  rotate_left
  · simp only [Act.put, List.setIfInBounds_toArray, List.set_cons_zero, List.set_cons_succ, i64_w, i32_w]
    rfl
  refine Ypure_ (i := 3) (N := some 20) (v := ?_) (a' := ?_) #[false, true, true, true, false, false, false, false, false, false, false, false] rfl rfl (by kernel_rfl) (fun _ _ _ h => h) (Or.inl ⟨by rfl, ?_⟩) ?_ ?_
  rotate_left
  · intro w'
    go_simp
    with_reducible rfl
  rotate_left
  · simp only [Act.put, List.setIfInBounds_toArray, List.set_cons_zero, List.set_cons_succ, i64_w, i32_w]
    rfl
  refine Ytake_ (i := 0) (N := some 17) (v := ?_) (a' := ?_) #[true, true, true, true, false, false, false, false, false, false, false, false] rfl rfl (by kernel_rfl) (fun _ _ _ h => h) (Or.inl ⟨by rfl, ?_⟩) hHeld ?_ ?_
  rotate_left
  · rintro w' ⟨s0, s1⟩
    go_simp
    with_reducible rfl
  rotate_left
  · simp only [Act.put, List.setIfInBounds_toArray, List.set_cons_zero, List.set_cons_succ, i64_w, i32_w]
    rfl
  refine Ytake_ (i := 4) (N := some 21) (v := ?_) (a' := ?_) #[true, true, true, true, true, false, false, false, false, false, false, false] rfl rfl (by kernel_rfl) (fun _ _ _ h => h) (Or.inl ⟨by rfl, ?_⟩) hHeld ?_ ?_
  rotate_left
  · rintro w' ⟨s0, s1⟩
    go_simp
    with_reducible rfl
  rotate_left
  · simp only [Act.put, List.setIfInBounds_toArray, List.set_cons_zero, List.set_cons_succ, i64_w, i32_w]
    rfl
  refine Yone_ (i := 5) (N := some 22) #[true, true, true, true, true, true, false, false, false, false, false, false] rfl rfl (by kernel_rfl) (by decide) (fun K hK => ?_)
  refine Yvalue_ (w1 := ?_) (v := ?_) (by rfl) rfl ?_ ?_
  rotate_left 2
  · go_simp
    constructor
    · rfl
    · rfl
  refine hK.out _ _ ⟨hHeld.1, hHeld.2⟩ (fun hHeld => ?_)
  clear hK K
  refine Ynorm_ (a' := ?_) ?_ ?_
  rotate_left
  · show Act.put _ (some 22) _ = _
    simp only [Act.put, List.setIfInBounds_toArray, List.set_cons_zero, List.set_cons_succ, i64_w, i32_w]
    rfl
  refine Ypure_ (i := 6) (N := some 23) (v := ?_) (a' := ?_) #[true, true, true, true, true, true, true, false, false, false, false, false] rfl rfl (by kernel_rfl) (fun _ _ _ h => h) (Or.inl ⟨by rfl, ?_⟩) ?_ ?_
  rotate_left
  · intro w'
    go_simp
    with_reducible rfl
  rotate_left
  · simp only [Act.put, List.setIfInBounds_toArray, List.set_cons_zero, List.set_cons_succ, i64_w, i32_w]
    rfl
  refine Ylast_ (i := 7) (N := some 24) #[true, true, true, true, true, true, true, true, false, false, false, false] rfl rfl (by kernel_rfl) (by decide) (fun K hK => ?_)
  refine Ygoes_ Try.func44 (by kernel_rfl) rfl #[.slice A2 2 c2, .int .i64 2, .int .u64 (bs.length : Int)] (by rfl) rfl rfl (by simp only [List.map_toArray, List.map_cons, List.map_nil]; rfl) (by first | exact .inl rfl | exact .inr ⟨_, rfl⟩) ?_
  with_reducible refine (HCP.out).mono ?_
  rintro e w4 ⟨v4, rfl, hr4, hf4⟩
  refine ⟨_, rfl, ?_⟩
  obtain ⟨A4, c4, rfl, hc4, _⟩ := Kd.R_reads hr4
  rw [hl2] at hr4
  have HR4 := Aside0.mk hr4
  have HF4 := Aside0.mk (show Fr (fun b => w.heap.size ≤ b ∧ b ≠ B) w3 w4 from ((Fr.refl _ w3).drew).trans' hf4)
  clear hr4 hf4 hc4
  have k4 := HF4.out.get HB3.out (fun h => h.2 rfl)
  have d4 := blk_cell k4 (i := 0) rfl
  have f4 := blk_free k4 0
  refine hK.out _ _ ?_
  clear hK K
  refine Ynorm_ (a' := ?_) ?_ ?_
  rotate_left
  · show Act.put _ (some 24) _ = _
    simp only [Act.put, List.setIfInBounds_toArray, List.set_cons_zero, List.set_cons_succ, i64_w, i32_w]
    rfl
  refine Ypure_ (i := 8) (N := some 16) (v := ?_) (a' := ?_) #[true, true, true, true, true, true, true, true, true, false, false, false] rfl rfl (by kernel_rfl) (fun _ _ _ h => h) (Or.inl ⟨by rfl, ?_⟩) ?_ ?_
  rotate_left
  · intro w'
    go_simp
    with_reducible rfl
  rotate_left
  · simp only [Act.put, List.setIfInBounds_toArray, List.set_cons_zero, List.set_cons_succ, i64_w, i32_w]
    rfl
  refine Ypure_ (i := 9) (N := some 25) (v := ?_) (a' := ?_) #[true, true, true, true, true, true, true, true, true, true, false, false] rfl rfl (by kernel_rfl) (fun _ _ _ h => h) (Or.inl ⟨by rfl, ?_⟩) ?_ ?_
  rotate_left
  · intro w'
    go_simp
    with_reducible rfl
  rotate_left
  · simp only [Act.put, List.setIfInBounds_toArray, List.set_cons_zero, List.set_cons_succ, i64_w, i32_w]
    rfl
  refine Ypure_ (i := 10) (N := some 26) (v := ?_) (a' := ?_) #[true, true, true, true, true, true, true, true, true, true, true, false] rfl rfl (by kernel_rfl) (fun _ _ _ h => h) (Or.inl ⟨by rfl, ?_⟩) ?_ ?_
  rotate_left
  · intro w'
    go_simp
    with_reducible rfl
  rotate_left
  · simp only [Act.put, List.setIfInBounds_toArray, List.set_cons_zero, List.set_cons_succ, i64_w, i32_w]
    rfl
  refine Ylast_ (i := 11) (N := none) #[true, true, true, true, true, true, true, true, true, true, true, true] rfl rfl (by kernel_rfl) (by decide) (fun K hK => ?_)
  refine Yskip_ (w1 := ?_) (by rfl) rfl ?_ ?_
  rotate_left
  · go_simp
    rfl
  refine hK.out _ _ ?_
  clear hK K
  refine Ydone_ (by kernel_rfl) ?_
  obtain ⟨w5, hw5⟩ : ∃ w5, w5 = w4.setCell ⟨B, 0, none⟩ (.slice A4 4 c4) := ⟨_, rfl⟩
  rw [hl2, ← hw5]
  have HF5 := Aside0.mk (show Fr (fun b => w.heap.size ≤ b) w3 w5 from by rw [hw5]; exact (HF4.out.mono (fun b h => h.1)).setCell (.inl (by rw [HB.out]; exact HBW2.out.size)) _)
  have HBW5 := Aside0.mk (show Below w.heap.size w w5 from HBW3.out.trans (HF5.out.below _ HBW3.out.size (fun b h => h)))
  have HB5 := Aside0.mk (show w5.heap[B]? = some (.cells #[.slice A4 4 c4] 49 (0, 0)) by rw [hw5]; have := blk_set k4 0 (.slice A4 4 c4); simpa using this)
  have HR5 := Aside0.mk (show Kd.R (Kd.int .u8) 5 w5 0 (fun b => w.heap.size ≤ b ∧ b ≠ B) (.slice A4 4 c4) L2 by
    refine R8_keep HR4.out (fun b hb h => ?_)
    rw [hw5]
    exact Below.heap_setCell _ _ _ _ h.2)
  clear hw5 k4 d4 f4 hHeld d1 d2 hlen hcl hz3
  gi_wp2_with (gi_at_call 13; refine (cE _).mono ?_; rintro e w' ⟨rfl, rfl⟩)
  clear cE hfE cP
  obtain ⟨X, hX⟩ : ∃ X, X = w5.heap.size := ⟨_, rfl⟩
  obtain ⟨w6, hw6⟩ : ∃ w6, w6 = w5.alloc (.cells #[.pointer (some ⟨p, 0, none⟩)] 23) := ⟨_, rfl⟩
  rw [← hw6]
  have hz6 : w6.heap.size = X + 1 := by rw [hw6, hX]; simp
  have HZ := Aside0.mk hz6
  have HBW := Aside0.mk (show Below w.heap.size w w6 by rw [hw6]; exact below_alloc HBW5.out _)
  have hBX : B < X := by rw [hX]; exact blk_lt HB5.out
  have hBN : w.heap.size ≤ B := by rw [HB.out]; exact HBW2.out.size
  have HB6 := Aside0.mk (show w6.heap[B]? = some (.cells #[.slice A4 4 c4] 49 (0, 0)) by rw [hw6]; exact old_blk HB5.out _)
  have HR6 := Aside0.mk (show Kd.R (Kd.int .u8) 5 w6 0 (fun b => w.heap.size ≤ b ∧ b < X ∧ b ≠ B) (.slice A4 4 c4) L2 by
    refine R8_keep (w := w5) (R8_ref HR5.out (fun b _ h1 h2 => ⟨h2.1, by omega, h2.2⟩)) (fun b hb _ => ?_)
    rw [hw6]
    exact heap_alloc_old _ _ hb)
  have hb6 : w6.heap[X]? = some (.cells #[.pointer (some ⟨p, 0, none⟩)] 23 (0, 0)) := by rw [hw6, hX]; exact heap_alloc_new w5 _
  have hseq := each_seq w6 X p s U bs (HH.out.below HBW.out) (blk_cell hb6 rfl)
  rw [← hX]
  obtain ⟨N, hN⟩ : ∃ N, N = w.heap.size := ⟨_, rfl⟩
  have HN := Aside0.mk hN
  rw [← hN] at hBN
  rw [← hN] at HR6
  have hps : p < N ∧ s < N := by rw [hN]; exact ⟨HH.out.p_lt, HH.out.s_lt⟩
  obtain ⟨hp1, hs1⟩ := hps
  have HBWN := Aside0.mk (show Below N w w6 by rw [hN]; exact HBW.out)
  clear hw6 hX hb6 hN
  refine range_listA itG (xs := bs) (enc := encP) rfl (enters_of Try.func29 (by kernel_rfl) rfl) hseq (Below.refl _ _) (fun b hb => ?_) (fun _ => rfl)
    (fun W' => ∃ A c, W'.heap[B]? = some (.cells #[.slice A 4 c] 49 (0, 0)) ∧ Kd.R (Kd.int .u8) 5 W' 0 (fun b => N ≤ b ∧ b < X ∧ b ≠ B) (.slice A 4 c) L2 ∧ Below N w W')
    (EncI N X B w L2 bs) (fun _ _ _ _ => False) ?hI0 ?hI ?hIx ?hstart ?h0 ?a1 ?assign ?body ?done ?stop
  · rcases hb with rfl | rfl | rfl <;> omega
  case hI0 =>
    rintro P Q hA ⟨A, c, h1, h2, h3⟩ hg
    have hg2 := itG.below hA hg
    rw [hz6] at hg2
    exact ⟨A, c, (hg2.block _ (by omega)).trans h1, R8_keep h2 (fun b hb h => hg2.block b (by omega)), h3.trans (hg2.mono (by omega))⟩
  case hI =>
    rintro M k P Q hA ⟨⟨A, c, h1, h2, h3⟩⟩ hg
    refine ⟨?_⟩
    have hg2 := itG.below hA hg
    rw [hz6] at hg2
    exact ⟨A, c, (hg2.block _ (by omega)).trans h1, R8_itg h2 hg, h3.trans (hg2.mono (by omega))⟩
  case hIx => intro c M k P Q hA h; exact h.elim
  case hstart =>
    rintro M W' h1 h2 ⟨A, c, h3, h4, h5⟩
    refine ⟨⟨A, c, h3, ?_, h5⟩⟩
    rw [List.take_zero, show encG [] = [] from rfl, List.append_nil]
    exact Kd.R_mono h4 (fun b hb => .inl hb)
  case h0 => exact ⟨A4, c4, HB6.out, HR6.out, HBWN.out⟩
  case assign =>
    intro l' x W' K hK
    simp only [encP]
    gi_wp2
    exact hK
  case body =>
    rintro l' M k ⟨a, n⟩ W' hx hM hMW ⟨⟨A, c, h1, h2, h3⟩⟩
    rw [hz6] at hM
    have hq := chain_mem HH.out.ok (a, n) (List.mem_of_getElem? hx)
    simp only at hq
    have hkl : k < bs.length := (List.getElem?_eq_some_iff.1 hx).1
    have HX := Aside0.mk (show encG (bs.take (k + 1)) = (encG (bs.take k) ++ leB (a : Int) 2) ++ leB (n : Int) 2 by rw [take_snoc hx, encG_snoc])
    have hgl : (encG (bs.take k)).length = 4 * k := by rw [encG_length, List.length_take]; omega
    obtain ⟨nk, hnk⟩ : ∃ nk, nk = 4 + 4 * k := ⟨_, rfl⟩
    have HNK := Aside0.mk hnk
    obtain ⟨L, hL⟩ : ∃ L, L = L2 ++ encG (bs.take k) := ⟨_, rfl⟩
    have HL := Aside0.mk hL
    have hll : L.length = nk := by rw [hL, List.length_append, hl2, hgl, hnk]
    rw [← hnk] at h1 h2
    rw [← hL] at h2
    have hnk5 : nk ≤ 4100 := by omega
    have la : (L ++ leB (a : Int) 2).length = nk + 2 := by rw [List.length_append, hll, leB_length]
    have lb : ((L ++ leB (a : Int) 2) ++ leB (n : Int) 2).length = nk + 4 := by rw [List.length_append, la, leB_length]
    obtain ⟨T, hT⟩ : ∃ T : Nat → Prop, T = fun b => N ≤ b ∧ b < X ∧ b ≠ B ∨ M ≤ b := ⟨_, rfl⟩
    have HT := Aside0.mk hT
    rw [← hT] at h2
    have HTB := Aside0.mk (show ¬ T B by rw [hT]; rintro (h | h); exact h.2.2 rfl; omega)
    have HTN := Aside0.mk (show ∀ b, M ≤ b → T b by intro b hb; rw [hT]; exact .inr hb)
    have hp1 := put_row T T (.slice A nk c) L a W' (by omega) h2 (by omega) (fun _ h => h) (fun b hb => HTN.out b (by omega))
    have HP1 := Aside0.mk (CallsIn.inRound l' (callsIn_wide (n := 12).2 hp1))
    have ce := blk_cell h1 (i := 0) rfl
    have H1 := Aside0.mk h1
    have H3 := Aside0.mk h3
    have HM := Aside0.mk hM
    have HMW := Aside0.mk hMW
    have hca : IntKind.u64.wrap (a : Int) = a := u64_wrap_of (by omega) (by omega)
    have hcn : IntKind.u64.wrap (n : Int) = n := u64_wrap_of (by omega) (by omega)
    have hfP2 : (Fence.wide.inRound l').fn 44 := trivial
    clear hx hgl hnk hL hT h1 h2 h3 hM hMW hp1 hseq
    gi_wp2_with (gi_at_call 44; refine HP1.out.mono ?_; clear HP1; rintro e wa ⟨va, rfl, hra, hfa⟩; obtain ⟨Aa, ca, rfl, _, _⟩ := Kd.R_reads hra; rw [la] at hra; have HRA := Aside0.mk hra; have HFA := Aside0.mk hfa; clear hra hfa; have ka := HFA.out.get H1.out HTB.out; have da := blk_cell ka (i := 0) rfl; have fa := blk_free ka 0; have KA := Aside0.mk ka; clear ka)
    obtain ⟨wb, hwb⟩ : ∃ wb, wb = wa.setCell ⟨B, 0, none⟩ (.slice Aa (nk + 2) ca) := ⟨_, rfl⟩
    rw [← hwb]
    have HFB := Aside0.mk (show Fr (fun b => T b ∨ b = B) W' wb from by rw [hwb]; exact (HFA.out.mono (fun b h => .inl h)).setCell (.inl (.inr rfl)) _)
    have HKB := Aside0.mk (show wb.heap[B]? = some (.cells #[.slice Aa (nk + 2) ca] 49 (0, 0)) by rw [hwb]; have := blk_set KA.out 0 (.slice Aa (nk + 2) ca); simpa using this)
    have HRB := Aside0.mk (show Kd.R (Kd.int .u8) 5 wb 0 T (.slice Aa (nk + 2) ca) (L ++ leB (a : Int) 2) by
      refine R8_keep HRA.out (fun b hb h => ?_)
      rw [hwb]
      exact Below.heap_setCell _ _ _ _ (fun e => HTB.out (by have e : b = B := e; rw [← e]; exact h)))
    clear hwb da fa
    have hsz := Nat.le_trans HMW.out HFB.out.size
    have hp2 := put_row T T (.slice Aa (nk + 2) ca) (L ++ leB (a : Int) 2) n wb (by omega) HRB.out (by omega) (fun _ h => h) (fun b hb => HTN.out b (by omega))
    refine (CallsIn.inRound l' (callsIn_wide (n := 12).2 hp2)).mono ?_
    clear hp2 hsz
    rintro e wc ⟨vc, rfl, hrc, hfc⟩
    obtain ⟨Ac, cc, rfl, _, _⟩ := Kd.R_reads hrc
    rw [lb] at hrc
    have HRC := Aside0.mk hrc
    have HFC := Aside0.mk hfc
    have kc := hfc.get HKB.out HTB.out
    have dc := blk_cell kc (i := 0) rfl
    have fc := blk_free kc 0
    have KC := Aside0.mk kc
    clear hrc hfc kc
    rw [lb]
    gi_wp2
    obtain ⟨V, hV⟩ : ∃ V, V = wc.setCell ⟨B, 0, none⟩ (.slice Ac (nk + 4) cc) := ⟨_, rfl⟩
    rw [← hV]
    have HFV := Aside0.mk (show Fr (fun b => T b ∨ b = B) W' V from by rw [hV]; exact (HFB.out.trans (HFC.out.mono (fun b h => .inl h)) (fun b h _ => h)).setCell (.inl (.inr rfl)) _)
    have hTx := HT.out
    refine ⟨KeepI.of_fr HFV.out (fun b hb ht hc => ?_), ⟨Ac, cc, ?_, ?_, ?_⟩⟩
    · have hz := HZ.out
      have hm2 := HM.out
      rw [hTx] at ht
      rcases hc with hc | hc
      · rcases ht with (ht | ht) | rfl <;> omega
      · rcases hc with rfl | rfl | rfl
        · rcases ht with (ht | ht) | ht <;> omega
        · rcases ht with (ht | ht) | ht <;> omega
        · rcases ht with (ht | ht) | ht <;> omega
    · have := blk_set KC.out 0 (.slice Ac (nk + 4) cc)
      rw [hV, show 4 + 4 * (k + 1) = nk + 4 by have := HNK.out; omega]
      simpa using this
    · rw [HX.out, show 4 + 4 * (k + 1) = nk + 4 by have := HNK.out; omega, ← List.append_assoc, ← List.append_assoc, ← HL.out, ← hTx]
      refine R8_keep HRC.out (fun b hb h => ?_)
      rw [hV]
      exact Below.heap_setCell _ _ _ _ (fun e => HTB.out (by have e : b = B := e; rw [← e]; exact h))
    · refine H3.out.trans (HFV.out.below N (by have := HMW.out; have := HM.out; omega) (fun b hb => ?_))
      rw [hTx] at hb
      have := HM.out
      rcases hb with (hb | hb) | hb <;> omega
  case done =>
    rintro M W' hM hMW ⟨⟨A, c, h1, h2, h3⟩⟩ hD
    rw [hz6] at hM
    rw [List.take_length, HL2.out] at h2
    have ce := blk_cell h1 (i := 0) rfl
    have HR := Aside0.mk h2
    have H3 := Aside0.mk h3
    have HD := Aside0.mk hD
    have hz := HZ.out
    have HMX := Aside0.mk hM
    clear hseq h1 h2 h3 hD hM
    gi_wp2
    refine ⟨by simp, .inl ⟨_, _, rfl, run_takeDeferred HD.out, ?_⟩⟩
    refine ⟨_, results_tmp rfl _ _ _, ⟨_, rfl, ?_, ?_⟩⟩
    · rw [← HN.out]
      have hg : ItG N W' (W'.putObj w6.heap.size (.deferred none)) := itG.put (by omega) HD.out rfl
      refine R8_itg (R8_ref HR.out (fun b _ _ h => ?_)) hg
      rcases h with h | h
      · exact h.1
      · have := HMX.out; omega
    · rw [← HN.out]
      exact H3.out.trans (itB.put (by omega) HD.out rfl)
  case stop => intro c M k W' _ _ _ h; exact h.elim
end Go.Proofs.Ytgendnoafemgpaa.Hand
namespace Go.Proofs.Ytgendnoafemgpaa.PHandRB
open Go.RowKit Go.Proofs.YtgendnoafemgpaaW.PrintWords Go.Proofs.YtgendnoafemgpaaW.PrintLast Go.Proofs.YtgendnoafemgpaaW.PrintMore
attribute [local go_sem] max2_int min2_int max_two min_two max_three min_three max_four min_four   -- for this text's walks alone
set_option linter.unusedVariables false
set_option linter.unusedSimpArgs false



structure S29 where
 f0 : Int
 f1 : Int
 f2 : Int
def ecdysislaw10_few.f (a0 : Int) (l1 : List (S29)) : Option (Bool) := if (l1.length : Int) ≤ 60 then (if a0 ≤ 60 then (some true) else (some (decide (a0 > 1024)))) else (some false)
def ecdysisref10_Starts.l0 : Nat → List Int → List Int → Int → Option (List Int)
 | 0, _, _, _ => none
 | k + 1, x0, x3, x4 => if x4 < (x0.length : Int) then (if 0 ≤ x4 then (if (rd x0 x4) = (wrap64 (x4 + 1)) then (if x3.length < 17592186044416 then (ecdysisref10_Starts.l0 k x0 (x3 ++ [x4]) (wrap64 (x4 + 1))) else (none)) else (ecdysisref10_Starts.l0 k x0 x3 (wrap64 (x4 + 1)))) else (none)) else (some x3)
def ecdysisref10_Starts.f (k : Nat) (l0 : List Int) : Option (List Int) := ecdysisref10_Starts.l0 k l0 ([] : List Int) 0
theorem ecdysisref10_Starts.mono_l : ∀ k, (∀ y0 y1 y2, LeO (ecdysisref10_Starts.l0 k y0 y1 y2) (ecdysisref10_Starts.l0 (k + 1) y0 y1 y2))
 | 0 => fun _ _ _ r h => by simp [ecdysisref10_Starts.l0] at h
 | k + 1 => by
  have ih0 := ecdysisref10_Starts.mono_l k
  ·intro y0 y1 y2
   unfold ecdysisref10_Starts.l0
   repeat' first
   | (with_reducible exact ih0 _ _ _)
   | (with_reducible exact LeO.refl _)
   | (with_reducible exact LeO.none _)
   | (with_reducible refine LeO.ite ?_ ?_)
   | (with_reducible refine LeO.bind ?_ (fun _ => ?_))
   | exact ih0 _ _ _
   | exact LeO.none _
   | refine LeO.ite ?_ ?_
   | refine LeO.bind ?_ (fun _ => ?_)
theorem ecdysisref10_Starts.mono : ∀ a0 k, LeO (ecdysisref10_Starts.f k a0) (ecdysisref10_Starts.f (k + 1) a0) := by
 intro a0 k
 have ih0 := ecdysisref10_Starts.mono_l k
 unfold ecdysisref10_Starts.f
 repeat' first
   | (with_reducible exact ih0 _ _ _)
   | (with_reducible exact LeO.refl _)
   | (with_reducible exact LeO.none _)
   | (with_reducible refine LeO.ite ?_ ?_)
   | (with_reducible refine LeO.bind ?_ (fun _ => ?_))
   | exact ih0 _ _ _
   | exact LeO.none _
   | refine LeO.ite ?_ ?_
   | refine LeO.bind ?_ (fun _ => ?_)
def ecdysisref10_Long.l0 : Nat → List Int → Int → Int → Int → Option (Int)
 | 0, _, _, _, _ => none
 | k + 1, x0, x1, x5, x6 => if x6 < (x0.length : Int) then (if 0 ≤ x6 then (if (rd x0 x6) = (wrap64 (x1 + 1)) then (if x1 ≥ 0 then (ecdysisref10_Long.l0 k x0 x1 (wrap64 (x5 + 1)) (wrap64 (x6 + 1))) else (ecdysisref10_Long.l0 k x0 x1 x5 (wrap64 (x6 + 1)))) else (ecdysisref10_Long.l0 k x0 x1 x5 (wrap64 (x6 + 1)))) else (none)) else (some x5)
def ecdysisref10_Long.f (k : Nat) (l0 : List Int) (a1 : Int) : Option (Int) := ecdysisref10_Long.l0 k l0 a1 0 0
theorem ecdysisref10_Long.mono_l : ∀ k, (∀ y0 y1 y2 y3, LeO (ecdysisref10_Long.l0 k y0 y1 y2 y3) (ecdysisref10_Long.l0 (k + 1) y0 y1 y2 y3))
 | 0 => fun _ _ _ _ r h => by simp [ecdysisref10_Long.l0] at h
 | k + 1 => by
  have ih0 := ecdysisref10_Long.mono_l k
  ·intro y0 y1 y2 y3
   unfold ecdysisref10_Long.l0
   repeat' first
   | (with_reducible exact ih0 _ _ _ _)
   | (with_reducible exact LeO.refl _)
   | (with_reducible exact LeO.none _)
   | (with_reducible refine LeO.ite ?_ ?_)
   | (with_reducible refine LeO.bind ?_ (fun _ => ?_))
   | exact ih0 _ _ _ _
   | exact LeO.none _
   | refine LeO.ite ?_ ?_
   | refine LeO.bind ?_ (fun _ => ?_)
theorem ecdysisref10_Long.mono : ∀ a0 a1 k, LeO (ecdysisref10_Long.f k a0 a1) (ecdysisref10_Long.f (k + 1) a0 a1) := by
 intro a0 a1 k
 have ih0 := ecdysisref10_Long.mono_l k
 unfold ecdysisref10_Long.f
 repeat' first
   | (with_reducible exact ih0 _ _ _ _)
   | (with_reducible exact LeO.refl _)
   | (with_reducible exact LeO.none _)
   | (with_reducible refine LeO.ite ?_ ?_)
   | (with_reducible refine LeO.bind ?_ (fun _ => ?_))
   | exact ih0 _ _ _ _
   | exact LeO.none _
   | refine LeO.ite ?_ ?_
   | refine LeO.bind ?_ (fun _ => ?_)
def ecdysisref03_Same.l0 : Nat → List Int → List Int → Int → Option (Bool)
 | 0, _, _, _ => none
 | k + 1, x0, x1, x5 => if x5 < (x0.length : Int) then (if 0 ≤ x5 then (if x5 < (x1.length : Int) then (if (rd x0 x5) = (rd x1 x5) then (ecdysisref03_Same.l0 k x0 x1 (wrap64 (x5 + 1))) else (some false)) else (none)) else (none)) else (some true)
def ecdysisref03_Same.f (k : Nat) (l0 : List Int) (l1 : List Int) : Option (Bool) := if (l0.length : Int) = (l1.length : Int) then (ecdysisref03_Same.l0 k l0 l1 0) else (some false)
theorem ecdysisref03_Same.mono_l : ∀ k, (∀ y0 y1 y2, LeO (ecdysisref03_Same.l0 k y0 y1 y2) (ecdysisref03_Same.l0 (k + 1) y0 y1 y2))
 | 0 => fun _ _ _ r h => by simp [ecdysisref03_Same.l0] at h
 | k + 1 => by
  have ih0 := ecdysisref03_Same.mono_l k
  ·intro y0 y1 y2
   unfold ecdysisref03_Same.l0
   repeat' first
   | (with_reducible exact ih0 _ _ _)
   | (with_reducible exact LeO.refl _)
   | (with_reducible exact LeO.none _)
   | (with_reducible refine LeO.ite ?_ ?_)
   | (with_reducible refine LeO.bind ?_ (fun _ => ?_))
   | exact ih0 _ _ _
   | exact LeO.none _
   | refine LeO.ite ?_ ?_
   | refine LeO.bind ?_ (fun _ => ?_)
theorem ecdysisref03_Same.mono : ∀ a0 a1 k, LeO (ecdysisref03_Same.f k a0 a1) (ecdysisref03_Same.f (k + 1) a0 a1) := by
 intro a0 a1 k
 have ih0 := ecdysisref03_Same.mono_l k
 unfold ecdysisref03_Same.f
 repeat' first
   | (with_reducible exact ih0 _ _ _)
   | (with_reducible exact LeO.refl _)
   | (with_reducible exact LeO.none _)
   | (with_reducible refine LeO.ite ?_ ?_)
   | (with_reducible refine LeO.bind ?_ (fun _ => ?_))
   | exact ih0 _ _ _
   | exact LeO.none _
   | refine LeO.ite ?_ ?_
   | refine LeO.bind ?_ (fun _ => ?_)
def ecdysisref10_Used.l0 : Nat → List Int → Int → Int → Option (Int)
 | 0, _, _, _ => none
 | k + 1, x0, x3, x4 => if x4 < (x0.length : Int) then (if 0 ≤ x4 then (if (rd x0 x4) > 0 then (ecdysisref10_Used.l0 k x0 (wrap64 (x3 + 1)) (wrap64 (x4 + 1))) else (ecdysisref10_Used.l0 k x0 x3 (wrap64 (x4 + 1)))) else (none)) else (some x3)
def ecdysisref10_Used.f (k : Nat) (l0 : List Int) : Option (Int) := ecdysisref10_Used.l0 k l0 0 0
theorem ecdysisref10_Used.mono_l : ∀ k, (∀ y0 y1 y2, LeO (ecdysisref10_Used.l0 k y0 y1 y2) (ecdysisref10_Used.l0 (k + 1) y0 y1 y2))
 | 0 => fun _ _ _ r h => by simp [ecdysisref10_Used.l0] at h
 | k + 1 => by
  have ih0 := ecdysisref10_Used.mono_l k
  ·intro y0 y1 y2
   unfold ecdysisref10_Used.l0
   repeat' first
   | (with_reducible exact ih0 _ _ _)
   | (with_reducible exact LeO.refl _)
   | (with_reducible exact LeO.none _)
   | (with_reducible refine LeO.ite ?_ ?_)
   | (with_reducible refine LeO.bind ?_ (fun _ => ?_))
   | exact ih0 _ _ _
   | exact LeO.none _
   | refine LeO.ite ?_ ?_
   | refine LeO.bind ?_ (fun _ => ?_)
theorem ecdysisref10_Used.mono : ∀ a0 k, LeO (ecdysisref10_Used.f k a0) (ecdysisref10_Used.f (k + 1) a0) := by
 intro a0 k
 have ih0 := ecdysisref10_Used.mono_l k
 unfold ecdysisref10_Used.f
 repeat' first
   | (with_reducible exact ih0 _ _ _)
   | (with_reducible exact LeO.refl _)
   | (with_reducible exact LeO.none _)
   | (with_reducible refine LeO.ite ?_ ?_)
   | (with_reducible refine LeO.bind ?_ (fun _ => ?_))
   | exact ih0 _ _ _
   | exact LeO.none _
   | refine LeO.ite ?_ ?_
   | refine LeO.bind ?_ (fun _ => ?_)
def ecdysisref10_Largest.l0 : Nat → List Int → Int → Int → Int → Option (Int)
 | 0, _, _, _, _ => none
 | k + 1, x0, x3, x4, x5 => if x5 < (x0.length : Int) then (if 0 ≤ x5 then (if (rd x0 x5) > 0 then (if 0 > x3 then (ecdysisref10_Largest.l0 k x0 0 0 (wrap64 (x5 + 1))) else (ecdysisref10_Largest.l0 k x0 x3 0 (wrap64 (x5 + 1)))) else (if (wrap64 (x4 + 1)) > x3 then (ecdysisref10_Largest.l0 k x0 (wrap64 (x4 + 1)) (wrap64 (x4 + 1)) (wrap64 (x5 + 1))) else (ecdysisref10_Largest.l0 k x0 x3 (wrap64 (x4 + 1)) (wrap64 (x5 + 1))))) else (none)) else (some x3)
def ecdysisref10_Largest.f (k : Nat) (l0 : List Int) : Option (Int) := ecdysisref10_Largest.l0 k l0 0 0 0
theorem ecdysisref10_Largest.mono_l : ∀ k, (∀ y0 y1 y2 y3, LeO (ecdysisref10_Largest.l0 k y0 y1 y2 y3) (ecdysisref10_Largest.l0 (k + 1) y0 y1 y2 y3))
 | 0 => fun _ _ _ _ r h => by simp [ecdysisref10_Largest.l0] at h
 | k + 1 => by
  have ih0 := ecdysisref10_Largest.mono_l k
  ·intro y0 y1 y2 y3
   unfold ecdysisref10_Largest.l0
   repeat' first
   | (with_reducible exact ih0 _ _ _ _)
   | (with_reducible exact LeO.refl _)
   | (with_reducible exact LeO.none _)
   | (with_reducible refine LeO.ite ?_ ?_)
   | (with_reducible refine LeO.bind ?_ (fun _ => ?_))
   | exact ih0 _ _ _ _
   | exact LeO.none _
   | refine LeO.ite ?_ ?_
   | refine LeO.bind ?_ (fun _ => ?_)
theorem ecdysisref10_Largest.mono : ∀ a0 k, LeO (ecdysisref10_Largest.f k a0) (ecdysisref10_Largest.f (k + 1) a0) := by
 intro a0 k
 have ih0 := ecdysisref10_Largest.mono_l k
 unfold ecdysisref10_Largest.f
 repeat' first
   | (with_reducible exact ih0 _ _ _ _)
   | (with_reducible exact LeO.refl _)
   | (with_reducible exact LeO.none _)
   | (with_reducible refine LeO.ite ?_ ?_)
   | (with_reducible refine LeO.bind ?_ (fun _ => ?_))
   | exact ih0 _ _ _ _
   | exact LeO.none _
   | refine LeO.ite ?_ ?_
   | refine LeO.bind ?_ (fun _ => ?_)
def ecdysisref10_New.f (a0 : Int) : Option (List Int × Bool) := if a0 < 0 then (some (([] : List Int), false)) else (if a0 > 1024 then (some (([] : List Int), false)) else (if 0 ≤ a0 then (if (a0 : Int).toNat ≤ 35184372088832 then (some ((List.replicate (a0 : Int).toNat 0), true)) else (none)) else (none)))
def ecdysisref10_free.l0 : Nat → List Int → Int → Int → Int → Option (Bool)
 | 0, _, _, _, _ => none
 | k + 1, x0, x1, x2, x7 => if x7 < (wrap64 (x1 + x2)) then (if 0 ≤ x7 then (if x7 < (x0.length : Int) then (if (rd x0 x7) > 0 then (some false) else (ecdysisref10_free.l0 k x0 x1 x2 (wrap64 (x7 + 1)))) else (none)) else (none)) else (some true)
def ecdysisref10_free.f (k : Nat) (l0 : List Int) (a1 : Int) (a2 : Int) : Option (Bool) := ecdysisref10_free.l0 k l0 a1 a2 a1
theorem ecdysisref10_free.mono_l : ∀ k, (∀ y0 y1 y2 y3, LeO (ecdysisref10_free.l0 k y0 y1 y2 y3) (ecdysisref10_free.l0 (k + 1) y0 y1 y2 y3))
 | 0 => fun _ _ _ _ r h => by simp [ecdysisref10_free.l0] at h
 | k + 1 => by
  have ih0 := ecdysisref10_free.mono_l k
  ·intro y0 y1 y2 y3
   unfold ecdysisref10_free.l0
   repeat' first
   | (with_reducible exact ih0 _ _ _ _)
   | (with_reducible exact LeO.refl _)
   | (with_reducible exact LeO.none _)
   | (with_reducible refine LeO.ite ?_ ?_)
   | (with_reducible refine LeO.bind ?_ (fun _ => ?_))
   | exact ih0 _ _ _ _
   | exact LeO.none _
   | refine LeO.ite ?_ ?_
   | refine LeO.bind ?_ (fun _ => ?_)
theorem ecdysisref10_free.mono : ∀ a0 a1 a2 k, LeO (ecdysisref10_free.f k a0 a1 a2) (ecdysisref10_free.f (k + 1) a0 a1 a2) := by
 intro a0 a1 a2 k
 have ih0 := ecdysisref10_free.mono_l k
 unfold ecdysisref10_free.f
 repeat' first
   | (with_reducible exact ih0 _ _ _ _)
   | (with_reducible exact LeO.refl _)
   | (with_reducible exact LeO.none _)
   | (with_reducible refine LeO.ite ?_ ?_)
   | (with_reducible refine LeO.bind ?_ (fun _ => ?_))
   | exact ih0 _ _ _ _
   | exact LeO.none _
   | refine LeO.ite ?_ ?_
   | refine LeO.bind ?_ (fun _ => ?_)
def ecdysisref10_set.l0 : Nat → Int → Int → Int → List Int → Int → Option (List Int)
 | 0, _, _, _, _, _ => none
 | k + 1, x1, x2, x3, x9, x10 => if x10 < (wrap64 (x1 + x2)) then (if 0 ≤ x10 then (if x10 < (x9.length : Int) then (ecdysisref10_set.l0 k x1 x2 x3 (x9.set (x10 : Int).toNat x3) (wrap64 (x10 + 1))) else (none)) else (none)) else (some x9)
def ecdysisref10_set.f (k : Nat) (l0 : List Int) (a1 : Int) (a2 : Int) (a3 : Int) : Option (List Int) := (some (([] : List Int) : List Int)).bind fun y121 => (if y121.length + l0.length < 17592186044416 then (ecdysisref10_set.l0 k a1 a2 a3 (y121 ++ l0) a1) else (none))
theorem ecdysisref10_set.mono_l : ∀ k, (∀ y0 y1 y2 y3 y4, LeO (ecdysisref10_set.l0 k y0 y1 y2 y3 y4) (ecdysisref10_set.l0 (k + 1) y0 y1 y2 y3 y4))
 | 0 => fun _ _ _ _ _ r h => by simp [ecdysisref10_set.l0] at h
 | k + 1 => by
  have ih0 := ecdysisref10_set.mono_l k
  ·intro y0 y1 y2 y3 y4
   unfold ecdysisref10_set.l0
   repeat' first
   | (with_reducible exact ih0 _ _ _ _ _)
   | (with_reducible exact LeO.refl _)
   | (with_reducible exact LeO.none _)
   | (with_reducible refine LeO.ite ?_ ?_)
   | (with_reducible refine LeO.bind ?_ (fun _ => ?_))
   | exact ih0 _ _ _ _ _
   | exact LeO.none _
   | refine LeO.ite ?_ ?_
   | refine LeO.bind ?_ (fun _ => ?_)
theorem ecdysisref10_set.mono : ∀ a0 a1 a2 a3 k, LeO (ecdysisref10_set.f k a0 a1 a2 a3) (ecdysisref10_set.f (k + 1) a0 a1 a2 a3) := by
 intro a0 a1 a2 a3 k
 have ih0 := ecdysisref10_set.mono_l k
 unfold ecdysisref10_set.f
 repeat' first
   | (with_reducible exact ih0 _ _ _ _ _)
   | (with_reducible exact LeO.refl _)
   | (with_reducible exact LeO.none _)
   | (with_reducible refine LeO.ite ?_ ?_)
   | (with_reducible refine LeO.bind ?_ (fun _ => ?_))
   | exact ih0 _ _ _ _ _
   | exact LeO.none _
   | refine LeO.ite ?_ ?_
   | refine LeO.bind ?_ (fun _ => ?_)
mutual
def ecdysisref10_Do.l0 : Nat → List Int → Int → Int → Int → Int → Option (List Int × Int × Int)
 | 0, _, _, _, _, _ => none
 | k + 1, x0, x7, x129000, x129001, x129002 => if x129002 ≤ (x0.length : Int) then (ecdysisref10_Do.j1 k x0 x7 (decide (x7 ≤ (wrap64 ((x0.length : Int) - x129002)))) x129000 x129001 x129002) else (ecdysisref10_Do.j1 k x0 x7 false x129000 x129001 x129002)
def ecdysisref10_Do.j1 : Nat → List Int → Int → Bool → Int → Int → Int → Option (List Int × Int × Int)
 | 0, _, _, _, _, _, _ => none
 | k + 1, x0, x7, x30, x129000, x129001, x129002 => if x30 = true then ((ecdysisref10_free.f k x0 x7 x129002).bind fun t129 => (if t129 = true then ((ecdysisref10_set.f k x0 x7 x129002 (wrap64 (x7 + 1))).bind fun t130 => (some (t130, x7, 0))) else (ecdysisref10_Do.l0 k x0 (wrap64 (x7 + 1)) x129000 x129001 x129002))) else (some (x0, 0, 100))
def ecdysisref10_Do.j2 : Nat → List Int → Bool → Int → Int → Int → Option (List Int × Int × Int)
 | 0, _, _, _, _, _ => none
 | k + 1, x0, x87, x129000, x129001, x129002 => if x87 = true then (some (x0, 0, 1)) else ((ecdysisref10_free.f k x0 x129001 x129002).bind fun t137 => (if t137 = true then ((ecdysisref10_set.f k x0 x129001 x129002 (wrap64 (x129001 + 1))).bind fun t138 => (some (t138, 0, 0))) else (some (x0, 0, 100))))
end
def ecdysisref10_Do.f (k : Nat) (l0 : List Int) (a1_0 : Int) (a1_1 : Int) (a1_2 : Int) : Option (List Int × Int × Int) := if a1_0 = 0 then (if a1_2 < 1 then (some (l0, 0, 1)) else (ecdysisref10_Do.l0 k l0 0 a1_0 a1_1 a1_2)) else (if a1_0 = 1 then ((ecdysisref10_Long.f k l0 a1_1).bind fun t133 => (if t133 = 0 then (some (l0, 0, 101)) else ((ecdysisref10_set.f k l0 a1_1 t133 0).bind fun t134 => (some (t134, 0, 0))))) else (if a1_0 = 2 then (if a1_2 < 1 then (ecdysisref10_Do.j2 k l0 true a1_0 a1_1 a1_2) else (if a1_1 < 0 then (ecdysisref10_Do.j2 k l0 true a1_0 a1_1 a1_2) else (if a1_1 > (l0.length : Int) then (ecdysisref10_Do.j2 k l0 true a1_0 a1_1 a1_2) else (ecdysisref10_Do.j2 k l0 (decide (a1_2 > (wrap64 ((l0.length : Int) - a1_1)))) a1_0 a1_1 a1_2)))) else (some (l0, 0, 0))))
theorem ecdysisref10_Do.mono_l : ∀ k, (∀ y0 y1 y2 y3 y4, LeO (ecdysisref10_Do.l0 k y0 y1 y2 y3 y4) (ecdysisref10_Do.l0 (k + 1) y0 y1 y2 y3 y4)) ∧ (∀ y0 y1 y2 y3 y4 y5, LeO (ecdysisref10_Do.j1 k y0 y1 y2 y3 y4 y5) (ecdysisref10_Do.j1 (k + 1) y0 y1 y2 y3 y4 y5)) ∧ (∀ y0 y1 y2 y3 y4, LeO (ecdysisref10_Do.j2 k y0 y1 y2 y3 y4) (ecdysisref10_Do.j2 (k + 1) y0 y1 y2 y3 y4))
 | 0 => ⟨fun _ _ _ _ _ r h => by simp [ecdysisref10_Do.l0] at h, fun _ _ _ _ _ _ r h => by simp [ecdysisref10_Do.j1] at h, fun _ _ _ _ _ r h => by simp [ecdysisref10_Do.j2] at h⟩
 | k + 1 => by
  obtain ⟨ih0, ih1, ih2⟩ := ecdysisref10_Do.mono_l k
  refine ⟨?_, ?_, ?_⟩
  ·intro y0 y1 y2 y3 y4
   unfold ecdysisref10_Do.l0
   repeat' first
   | (with_reducible exact ih0 _ _ _ _ _)
   | (with_reducible exact ih1 _ _ _ _ _ _)
   | (with_reducible exact ih2 _ _ _ _ _)
   | (with_reducible exact ecdysisref10_Long.mono _ _ _)
   | (with_reducible exact ecdysisref10_free.mono _ _ _ _)
   | (with_reducible exact ecdysisref10_set.mono _ _ _ _ _)
   | (with_reducible exact LeO.refl _)
   | (with_reducible exact LeO.none _)
   | (with_reducible refine LeO.ite ?_ ?_)
   | (with_reducible refine LeO.bind ?_ (fun _ => ?_))
   | exact ih0 _ _ _ _ _
   | exact ih1 _ _ _ _ _ _
   | exact ih2 _ _ _ _ _
   | exact ecdysisref10_Long.mono _ _ _
   | exact ecdysisref10_free.mono _ _ _ _
   | exact ecdysisref10_set.mono _ _ _ _ _
   | exact LeO.none _
   | refine LeO.ite ?_ ?_
   | refine LeO.bind ?_ (fun _ => ?_)
  ·intro y0 y1 y2 y3 y4 y5
   unfold ecdysisref10_Do.j1
   repeat' first
   | (with_reducible exact ih0 _ _ _ _ _)
   | (with_reducible exact ih1 _ _ _ _ _ _)
   | (with_reducible exact ih2 _ _ _ _ _)
   | (with_reducible exact ecdysisref10_Long.mono _ _ _)
   | (with_reducible exact ecdysisref10_free.mono _ _ _ _)
   | (with_reducible exact ecdysisref10_set.mono _ _ _ _ _)
   | (with_reducible exact LeO.refl _)
   | (with_reducible exact LeO.none _)
   | (with_reducible refine LeO.ite ?_ ?_)
   | (with_reducible refine LeO.bind ?_ (fun _ => ?_))
   | exact ih0 _ _ _ _ _
   | exact ih1 _ _ _ _ _ _
   | exact ih2 _ _ _ _ _
   | exact ecdysisref10_Long.mono _ _ _
   | exact ecdysisref10_free.mono _ _ _ _
   | exact ecdysisref10_set.mono _ _ _ _ _
   | exact LeO.none _
   | refine LeO.ite ?_ ?_
   | refine LeO.bind ?_ (fun _ => ?_)
  ·intro y0 y1 y2 y3 y4
   unfold ecdysisref10_Do.j2
   repeat' first
   | (with_reducible exact ih0 _ _ _ _ _)
   | (with_reducible exact ih1 _ _ _ _ _ _)
   | (with_reducible exact ih2 _ _ _ _ _)
   | (with_reducible exact ecdysisref10_Long.mono _ _ _)
   | (with_reducible exact ecdysisref10_free.mono _ _ _ _)
   | (with_reducible exact ecdysisref10_set.mono _ _ _ _ _)
   | (with_reducible exact LeO.refl _)
   | (with_reducible exact LeO.none _)
   | (with_reducible refine LeO.ite ?_ ?_)
   | (with_reducible refine LeO.bind ?_ (fun _ => ?_))
   | exact ih0 _ _ _ _ _
   | exact ih1 _ _ _ _ _ _
   | exact ih2 _ _ _ _ _
   | exact ecdysisref10_Long.mono _ _ _
   | exact ecdysisref10_free.mono _ _ _ _
   | exact ecdysisref10_set.mono _ _ _ _ _
   | exact LeO.none _
   | refine LeO.ite ?_ ?_
   | refine LeO.bind ?_ (fun _ => ?_)
theorem ecdysisref10_Do.mono : ∀ a0 a1 a2 a3 k, LeO (ecdysisref10_Do.f k a0 a1 a2 a3) (ecdysisref10_Do.f (k + 1) a0 a1 a2 a3) := by
 intro a0 a1 a2 a3 k
 obtain ⟨ih0, ih1, ih2⟩ := ecdysisref10_Do.mono_l k
 unfold ecdysisref10_Do.f
 repeat' first
   | (with_reducible exact ih0 _ _ _ _ _)
   | (with_reducible exact ih1 _ _ _ _ _ _)
   | (with_reducible exact ih2 _ _ _ _ _)
   | (with_reducible exact ecdysisref10_Long.mono _ _ _)
   | (with_reducible exact ecdysisref10_free.mono _ _ _ _)
   | (with_reducible exact ecdysisref10_set.mono _ _ _ _ _)
   | (with_reducible exact LeO.refl _)
   | (with_reducible exact LeO.none _)
   | (with_reducible refine LeO.ite ?_ ?_)
   | (with_reducible refine LeO.bind ?_ (fun _ => ?_))
   | exact ih0 _ _ _ _ _
   | exact ih1 _ _ _ _ _ _
   | exact ih2 _ _ _ _ _
   | exact ecdysisref10_Long.mono _ _ _
   | exact ecdysisref10_free.mono _ _ _ _
   | exact ecdysisref10_set.mono _ _ _ _ _
   | exact LeO.none _
   | refine LeO.ite ?_ ?_
   | refine LeO.bind ?_ (fun _ => ?_)
end Go.Proofs.Ytgendnoafemgpaa.PHandRB
namespace Go.Proofs.Ytgendnoafemgpaa.Hand
open Go.RowKit Go.Proofs.YtgendnoafemgpaaW.PrintWords Go.Proofs.Ytgendnoafemgpaa.PHandRB
set_option linter.unusedVariables false
set_option linter.unusedSimpArgs false
section loops
variable {bs : List Pc} {U : Nat}
end loops
def takeQ (n : Nat) (g : Pc) : Bool := decide (n ≤ g.2)
/-- What taking answers. -/
def takeR (U : Nat) (bs : List Pc) (n : Nat) : List Pc × Int × Int :=
  match (gaps 0 bs U).find? (takeQ n) with
  | none => (bs, 0, 100)
  | some g => (ins g.1 n bs, (g.1 : Int), 0)
def claimQ (a n : Nat) (g : Pc) : Bool := decide (g.1 ≤ a ∧ a + n ≤ g.1 + g.2)
def claimR (U : Nat) (bs : List Pc) (at_ n : Int) : List Pc × Int × Int :=
  if n < 1 ∨ at_ < 0 ∨ (U : Int) < n ∨ (U : Int) - n < at_ then (bs, 0, 1) else match (gaps 0 bs U).find? (claimQ at_.toNat n.toNat) with
    | none => (bs, 0, 100)
    | some _ => (ins at_.toNat n.toNat bs, 0, 0)
/-- What a call answers: the blocks, a number, the error. -/
def doR (U : Nat) (bs : List Pc) (kind at_ n : Int) : List Pc × Int × Int :=
  if kind = 0 then (if n < 1 then (bs, 0, 1) else takeR U bs n.toNat)
  else if kind = 1 then (if longI bs at_ = 0 then (bs, 0, 101) else (del at_.toNat bs, 0, 0))
  else if kind = 2 then claimR U bs at_ n
  else (bs, 0, 0)
abbrev I64 (x : Int) : Prop := -9223372036854775808 ≤ x ∧ x ≤ 9223372036854775807
end Go.Proofs.Ytgendnoafemgpaa.Hand
namespace Go.Proofs.Ytgendnoafemgpaa.Hand
attribute [local go_sem] Oper.semAt_some
open Go.RowKit Go.Maps Go.Sort Go.Shelf Go.Proofs.YtgendnoafemgpaaW.PrintWords Go.Proofs.YtgendnoafemgpaaW.PrintLast
set_option linter.unusedVariables false
set_option linter.unusedSimpArgs false
theorem wf_I64 {x : Int} (h : I64 x) : (Lit.int .i64 x).wf = true := by
  have := h.1
  have := h.2
  simp only [Lit.wf, IntKind.min, IntKind.max, IntKind.signed, IntKind.bits, Bool.and_eq_true]
  simp
  omega
/-- What a call has answered, and left. -/
def Ans (w : World) (p s U : Nat) (r : List Pc × Int × Int) (e : Ending) (w' : World) : Prop := e = .returned (.tuple #[.int .i64 r.2.1, .int .i64 r.2.2]) ∧ HasB w' p s U r.1 ∧ Fr (fun b => b = s) w w'
theorem take_all (w : World) (p s U : Nat) (bs : List Pc) (h : HasB w p s U bs) (n : Int) (hn : I64 n) (r : List Pc × Int × Int) (hr : (if n < 1 then (bs, 0, 1) else takeR U bs n.toNat) = r) :
    Calls Try.prog 19 #[.pointer (some ⟨p, 0, none⟩), .int .i64 n] w (Ans w p s U r) := by
  subst hr
  by_cases h1 : n < 1
  · rw [if_pos h1]
    refine (take_bad w p n h1).mono ?_
    rintro e w' ⟨rfl, hb⟩
    exact ⟨rfl, h.below hb, Fr.of_below hb _⟩
  · rw [if_neg h1]
    refine (take_calls w p s U bs h n (by omega) (wf_I64 hn)).mono ?_
    intro e w' ht
    have hq : takeP n = takeQ n.toNat := by
      funext g
      simp only [takeP, takeQ, decide_eq_decide]
      omega
    rw [TakeOut, hq] at ht
    rw [takeR]
    cases hf : (gaps 0 bs U).find? (takeQ n.toNat) with
    | none => rw [hf] at ht; exact ht
    | some g => rw [hf] at ht; exact ht
/-- The same for a call that answers an error alone. -/
def AnsE (w : World) (p s U : Nat) (r : List Pc × Int × Int) (e : Ending) (w' : World) : Prop := e = .returned (.int .i64 r.2.2) ∧ HasB w' p s U r.1 ∧ Fr (fun b => b = s) w w'
theorem free_all (w : World) (p s U : Nat) (bs : List Pc) (h : HasB w p s U bs) (a : Int) (ha : I64 a) (r : List Pc × Int × Int) (hr : (if longI bs a = 0 then (bs, 0, 101) else (del a.toNat bs, 0, 0)) = r) :
    Calls Try.prog 20 #[.pointer (some ⟨p, 0, none⟩), .int .i64 a] w (AnsE w p s U r) := by
  subst hr
  by_cases h1 : longI bs a = 0
  · rw [if_pos h1]
    refine (free_none w p s U bs h a (wf_I64 ha) h1).mono ?_
    rintro e w' ⟨rfl, rfl⟩
    exact ⟨rfl, h, Fr.refl _ _⟩
  · rw [if_neg h1]
    have hp : 0 ≤ a := by
      by_cases hp : 0 ≤ a
      · exact hp
      · rw [longI, if_neg hp] at h1; exact absurd rfl h1
    obtain ⟨x, rfl⟩ : ∃ x : Nat, a = x := ⟨a.toNat, by omega⟩
    rw [longI, if_pos hp, Int.toNat_natCast] at h1
    rw [Int.toNat_natCast]
    exact free_one w p s U bs h x (by omega)
theorem claim_all (w : World) (p s U : Nat) (bs : List Pc) (h : HasB w p s U bs) (a n : Int) (r : List Pc × Int × Int) (hr : claimR U bs a n = r) :
    Calls Try.prog 22 #[.pointer (some ⟨p, 0, none⟩), .int .i64 a, .int .i64 n] w (AnsE w p s U r) := by
  subst hr
  rw [claimR]
  by_cases h1 : n < 1 ∨ a < 0 ∨ (U : Int) < n ∨ (U : Int) - n < a
  · rw [if_pos h1]
    refine (claim_bad w p s U bs h a n h1).mono ?_
    rintro e w' ⟨rfl, hb⟩
    exact ⟨rfl, h.below hb, Fr.of_below hb _⟩
  · rw [if_neg h1]
    obtain ⟨x, rfl⟩ : ∃ x : Nat, a = x := ⟨a.toNat, by omega⟩
    obtain ⟨m, rfl⟩ : ∃ m : Nat, n = m := ⟨n.toNat, by omega⟩
    rw [Int.toNat_natCast, Int.toNat_natCast]
    refine (claim_calls w p s U bs h x m (by omega) (by omega)).mono ?_
    intro e w' ht
    rw [ClaimOut, show claimP x m = claimQ x m from rfl] at ht
    cases hf : (gaps 0 bs U).find? (claimQ x m) with
    | none => rw [hf] at ht; exact ht
    | some g => rw [hf] at ht; exact ht
set_option maxRecDepth 100000 in
set_option maxHeartbeats 4000000 in
theorem does_calls (w : World) (p s U : Nat) (bs : List Pc) (h : HasB w p s U bs) (kind a n : Int) (ha : I64 a) (hn : I64 n) :
    Calls Try.prog 12 #[.pointer (some ⟨p, 0, none⟩), .agg #[.int .i64 kind, .int .i64 a, .int .i64 n]] w (Ans w p s U (doR U bs kind a n)) := by
  have hu29 := Try.underlying29
  obtain ⟨Po, hPo⟩ : ∃ Po, Po = Ans w p s U (doR U bs kind a n) := ⟨_, rfl⟩
  have HPO := Aside0.mk hPo
  rw [← hPo]
  have HH := Aside0.mk h
  clear h hPo
  have HD := Aside0.mk (show doR U bs kind a n = _ from rfl)
  by_cases k0 : kind = 0
  · subst k0
    obtain ⟨r, hr⟩ : ∃ r : List Pc × Int × Int, (if n < 1 then (bs, 0, 1) else takeR U bs n.toNat) = r := ⟨_, rfl⟩
    have HR := Aside0.mk hr
    clear hr HD
    go_enter Try.func12, Try.ntmps12
    go_wp2_with (go_at_call 19; refine (take_all _ p s U bs (HH.out.below (below_alloc (Below.refl _ _) _)) n hn r HR.out).mono ?_; rintro e w2 ⟨rfl, hb2, hf2⟩; have HB2 := Aside0.mk hb2; have HF2 := Aside0.mk hf2; clear hb2 hf2)
    rw [HPO.out, doR, if_pos rfl, HR.out]
    exact ⟨rfl, HB2.out, (Fr.of_below (below_alloc (Below.refl _ _) _) _).trans' HF2.out⟩
  by_cases k1 : kind = 1
  · subst k1
    obtain ⟨r, hr⟩ : ∃ r : List Pc × Int × Int, (if longI bs a = 0 then (bs, 0, 101) else (del a.toNat bs, 0, 0)) = r := ⟨_, rfl⟩
    have HR := Aside0.mk hr
    have HR0 := Aside0.mk (show r.2.1 = 0 by rw [← hr]; split <;> rfl)
    clear hr HD
    go_enter Try.func12, Try.ntmps12
    go_wp2_with (go_at_call 20; refine (free_all _ p s U bs (HH.out.below (below_alloc (Below.refl _ _) _)) a ha r HR.out).mono ?_; rintro e w2 ⟨rfl, hb2, hf2⟩; have HB2 := Aside0.mk hb2; have HF2 := Aside0.mk hf2; clear hb2 hf2)
    rw [HPO.out, doR, if_neg (by decide), if_pos rfl, HR.out]
    exact ⟨by rw [HR0.out]; rfl, HB2.out, (Fr.of_below (below_alloc (Below.refl _ _) _) _).trans' HF2.out⟩
  by_cases k2 : kind = 2
  · subst k2
    obtain ⟨r, hr⟩ : ∃ r, claimR U bs a n = r := ⟨_, rfl⟩
    have HR := Aside0.mk hr
    have HR0 := Aside0.mk (show r.2.1 = 0 by rw [← hr, claimR]; split <;> (try rfl); split <;> rfl)
    clear hr HD
    go_enter Try.func12, Try.ntmps12
    go_wp2_with (go_at_call 22; refine (claim_all _ p s U bs (HH.out.below (below_alloc (Below.refl _ _) _)) a n r HR.out).mono ?_; rintro e w2 ⟨rfl, hb2, hf2⟩; have HB2 := Aside0.mk hb2; have HF2 := Aside0.mk hf2; clear hb2 hf2)
    rw [HPO.out, doR, if_neg (by decide), if_neg (by decide), if_pos rfl, HR.out]
    exact ⟨by rw [HR0.out]; rfl, HB2.out, (Fr.of_below (below_alloc (Below.refl _ _) _) _).trans' HF2.out⟩
  · clear HD
    have b0 : (kind == 0) = false := by simpa using k0
    have b1 : (kind == 1) = false := by simpa using k1
    have b2 : (kind == 2) = false := by simpa using k2
    go_enter Try.func12, Try.ntmps12
    go_wp2
    try go_ret2
    rw [HPO.out, doR, if_neg k0, if_neg k1, if_neg k2]
    exact ⟨rfl, HH.out.below (below_alloc (Below.refl _ _) _), Fr.of_below (below_alloc (Below.refl _ _) _) _⟩
set_option maxRecDepth 100000 in
set_option maxHeartbeats 4000000 in
theorem bk_alive (w : World) : Calls Try.prog 11 #[] w fun e w' => e = .returned (.bool true) ∧ Below w.heap.size w w' := by
  go_enter Try.func11, Try.ntmps11
  go_wp2_with (first | (go_at_call 10; refine (new_good w 5 (by decide)).mono ?_; rintro e w0 ⟨p, s, rfl, hb, hbw, hp, hs⟩; have H0 := Aside0.mk hb; have HF0 := Aside0.mk (Fr.of_below hbw (fun b => w.heap.size ≤ b)); have HS := Aside0.mk hs; clear hb hbw hp hs) | (go_at_call 19; refine (take_all _ p s 5 _ H0.out 2 (by decide) ([(0, 2)], 0, 0) (by decide)).mono ?_; rintro e w1 ⟨rfl, hb, hf⟩; have H1 := Aside0.mk hb; have HF1 := Aside0.mk (HF0.out.trans' (hf.mono (T := fun b => w.heap.size ≤ b) (fun b h => by rw [h]; exact HS.out))); clear hb hf H0 HF0) | (go_at_call 19; refine (take_all _ p s 5 _ H1.out 2 (by decide) ([(0, 2), (2, 2)], 2, 0) (by decide)).mono ?_; rintro e w2 ⟨rfl, hb, hf⟩; have H2 := Aside0.mk hb; have HF2 := Aside0.mk (HF1.out.trans' (hf.mono (T := fun b => w.heap.size ≤ b) (fun b h => by rw [h]; exact HS.out))); clear hb hf H1 HF1) | (go_at_call 20; refine (free_all _ p s 5 _ H2.out 0 (by decide) ([(2, 2)], 0, 0) (by decide)).mono ?_; rintro e w3 ⟨rfl, hb, hf⟩; have H3 := Aside0.mk hb; have HF3 := Aside0.mk (HF2.out.trans' (hf.mono (T := fun b => w.heap.size ≤ b) (fun b h => by rw [h]; exact HS.out))); clear hb hf H2 HF2) | (go_at_call 19; refine (take_all _ p s 5 _ H3.out 3 (by decide) ([(2, 2)], 0, 100) (by decide)).mono ?_; rintro e w4 ⟨rfl, hb, hf⟩; have H4 := Aside0.mk hb; have HF4 := Aside0.mk (HF3.out.trans' (hf.mono (T := fun b => w.heap.size ≤ b) (fun b h => by rw [h]; exact HS.out))); clear hb hf H3 HF3) | (go_at_call 19; refine (take_all _ p s 5 _ H4.out 1 (by decide) ([(0, 1), (2, 2)], 0, 0) (by decide)).mono ?_; rintro e w5 ⟨rfl, hb, hf⟩; have H5 := Aside0.mk hb; have HF5 := Aside0.mk (HF4.out.trans' (hf.mono (T := fun b => w.heap.size ≤ b) (fun b h => by rw [h]; exact HS.out))); clear hb hf H4 HF4) | (go_at_call 14; refine (used_calls _ p s 5 _ H5.out).mono ?_; rintro e w6 ⟨rfl, hb⟩; have H6 := Aside0.mk (H5.out.below hb); have HF6 := Aside0.mk (HF5.out.then_below hb); clear hb) | (go_at_call 15; refine (largest_calls _ p s 5 _ H6.out).mono ?_; rintro e w7 ⟨rfl, hb⟩; have H7 := Aside0.mk (H6.out.below hb); have HF7 := Aside0.mk (HF6.out.then_below hb); clear hb) | (go_at_call 18; refine (long_calls _ p s 5 _ H7.out 2 (by decide)).mono ?_; rintro e w8 ⟨rfl, rfl⟩) | (go_at_call 27; refine (encode_calls _ p s 5 _ H7.out).mono ?_; rintro e w9 ⟨v9, rfl, hr, hb⟩; obtain ⟨A9, c9, rfl, _, _⟩ := Kd.R_reads hr; rw [show (encL 5 [(0, 1), (2, 2)] ++ encG [(0, 1), (2, 2)]).length = 12 by rw [List.length_append, encG_length, encL, List.length_append, leB_length, leB_length]; rfl]; have HF9 := Aside0.mk (HF7.out.then_below hb); clear hb hr))
  go_ret
  exact ⟨rfl, HF9.out.below _ (Nat.le_refl _) (fun b h => h)⟩
end Go.Proofs.Ytgendnoafemgpaa.Hand
namespace Go.Proofs.Ytgendnoafemgpaa.Hand
attribute [local go_sem] Oper.semAt_some
open Go.RowKit Go.Maps Go.Sort Go.Shelf Go.Proofs.YtgendnoafemgpaaW.PrintWords Go.Proofs.YtgendnoafemgpaaW.PrintLast Go.Proofs.Ytgendnoafemgpaa.PHandRB
set_option linter.unusedVariables false
set_option linter.unusedSimpArgs false
section
variable {w : World} {A : Option Addr} {c U : Nat} {bs : List Pc}
end
end Go.Proofs.Ytgendnoafemgpaa.Hand
namespace Go.Proofs.Ytgendnoafemgpaa.Hand
open Go.RowKit Go.Proofs.YtgendnoafemgpaaW.PrintWords

section
variable {α : Type} {encA : α → List Value} {sz : Nat} {hl : ∀ x, (encA x).length = sz} {h1 : ∀ x, ∀ u ∈ encA x, u.oneCell' = true}
theorem rows_of {w : World} {a : Addr} {k : Nat} {Wf : α → Prop} (hx : ∀ i, i < k → ∃ x : α, Wf x ∧ ∀ j, j < sz → w.cell? (a.add (i * sz + j)) = (encA x)[j]?) :
    ∃ L : List α, L.length = k ∧ ∀ i x, L[i]? = some x → Wf x ∧ ∀ j, j < sz → w.cell? (a.add (i * sz + j)) = (encA x)[j]? := by
  induction k with
  | zero => exact ⟨[], rfl, fun i x h => by simp at h⟩
  | succ k ih =>
    obtain ⟨L, hL, h⟩ := ih (fun i hi => hx i (by omega))
    obtain ⟨x, hw, hc⟩ := hx k (by omega)
    refine ⟨L ++ [x], by simp [hL], fun i y hy => ?_⟩
    by_cases hi : i < L.length
    · rw [List.getElem?_append_left hi] at hy
      exact h i y hy
    · have hik : i = L.length := by
        have := (List.getElem?_eq_some_iff.1 hy).1
        simp at this
        omega
      subst hik
      rw [List.getElem?_append_right (Nat.le_refl _)] at hy
      simp at hy
      subst hy
      rw [hL]
      exact ⟨hw, hc⟩
theorem add_add (a : Addr) (i j : Nat) : (a.add i).add j = a.add (i + j) := by
  unfold Addr.add
  split <;> split <;> simp_all <;> (try omega)
theorem open_flat {H : Type} {enc : TypeId × Value → H} {P : Program} {w : World} {spare : Nat → Bool} {held : Bool} {t e : TypeId} {A : Option Addr} {len cap : Nat} {d : DataW H} {ps : List MemPlace} {Wf : α → Prop}
    (ht : P.underlying t = some (.slice e)) (hsz : P.cellsOf e = sz) (hel : ∀ n cs y, DataW.trod enc P w 0 spare held n e cs = some y → ∃ x : α, cs = encA x ∧ Wf x)
    (h : DataW.Trod enc P w 0 spare held t (.slice A len cap) d ps) : ∃ L : List α, len = L.length ∧ (flat encA sz hl h1).C w A L.length L ∧ ∀ x ∈ L, Wf x := by
  obtain ⟨fuel, hf⟩ := h
  rcases Go.Deep.open_slice ht hf with ⟨hcs, _⟩ | ⟨a, l, c, m, n, D, Pl, hcs, _, hlc, hm, hmm, _, hx⟩
  · simp [Value.cells] at hcs
    obtain ⟨rfl, rfl, rfl⟩ := hcs
    exact ⟨[], rfl, ⟨rfl, by simp, fun h => absurd h (by simp)⟩, fun x hx => absurd hx (by simp)⟩
  · simp [Value.cells] at hcs
    obtain ⟨rfl, rfl, rfl⟩ := hcs
    have hlm : len ≤ m := by rw [hmm]; split <;> omega
    obtain ⟨L, hL, hLx⟩ := rows_of (w := w) (a := a) (k := len) (sz := sz) (encA := encA) (Wf := Wf) (fun i hi => by
      obtain ⟨cs', h2, h3⟩ := hx i (by omega)
      obtain ⟨x, rfl, hw⟩ := hel _ _ _ h3
      rw [hsz] at h2
      obtain ⟨_, _, hc⟩ := World.cells?_some h2
      exact ⟨x, hw, fun j hj => by rw [← add_add]; exact hc j hj⟩)
    refine ⟨L, hL.symm, ⟨rfl, by rw [hL]; simp only [maxLen] at hm; omega, fun _ => ⟨a, rfl, fun i x hix => ?_⟩⟩, fun x hx => ?_⟩
    · obtain ⟨_, hc⟩ := hLx i x hix
      refine ⟨encA x, hl x, rfl, fun j u hu => ?_⟩
      rw [← hu]
      exact hc j (by have := (List.getElem?_eq_some_iff.1 hu).1; rwa [hl] at this)
    · obtain ⟨i, hi⟩ := List.getElem?_of_mem hx
      exact (hLx i x hi).1
end
end Go.Proofs.Ytgendnoafemgpaa.Hand
namespace Go.Proofs.Ytgendnoafemgpaa.Hand
open Go.RowKit Go.Maps Go.Sort Go.Shelf Go.Proofs.YtgendnoafemgpaaW.PrintWords Go.Proofs.YtgendnoafemgpaaW.PrintLast Go.Proofs.Ytgendnoafemgpaa.PHandRB
set_option linter.unusedVariables false
set_option linter.unusedSimpArgs false
abbrev OpB := Int × Int × Int
def encB (o : OpB) : List Value := [.int .i64 o.1, .int .i64 o.2.1, .int .i64 o.2.2]
theorem encB_len (o : OpB) : (encB o).length = 3 := rfl
theorem encB_one (o : OpB) : ∀ u ∈ encB o, u.oneCell' = true := by
  intro u hu
  simp only [encB, List.mem_cons, List.not_mem_nil, or_false] at hu
  rcases hu with rfl | rfl | rfl <;> rfl
def OpBK : Kd OpB := flat encB 3 encB_len encB_one
def WfB (o : OpB) : Prop := I64 o.2.1 ∧ I64 o.2.2
theorem list3b {α : Type} {l : List α} (h : l.length = 3) : ∃ a b c, l = [a, b, c] := by
  match l, h with
  | [a, b, c], _ => exact ⟨a, b, c, rfl⟩
theorem opB_el {H : Type} {enc : TypeId × Value → H} {w : World} {spare : Nat → Bool} {held : Bool} : ∀ n cs y, DataW.trod enc Try.prog w 0 spare held n 29 cs = some y → ∃ x : OpB, cs = encB x ∧ WfB x := by
  intro n cs y h
  obtain ⟨y0, y1, y2, m, _, hlen, h0, h1, h2⟩ := Go.Deep.trod_struct3 Try.underlying29 h
  obtain ⟨a, b, c, rfl⟩ := list3b (hlen.trans (show Try.prog.cellsOf 29 = 3 by kernel_rfl))
  rw [show Try.prog.cellsOf 3 = 1 by kernel_rfl] at h0 h1 h2
  obtain ⟨q, e0, _, w0⟩ := DataW.trod_int Try.underlying3 h0
  obtain ⟨s, e1, _, w1⟩ := DataW.trod_int Try.underlying3 h1
  obtain ⟨g, e2, _, w2⟩ := DataW.trod_int Try.underlying3 h2
  simp at e0 e1 e2
  subst e0 e1 e2
  exact ⟨(q, s, g), rfl, wf_i64 w1, wf_i64 w2⟩
theorem open_opsB {H : Type} {enc : TypeId × Value → H} {w : World} {spare : Nat → Bool} {held : Bool} {A : Option Addr} {len cap : Nat} {d : DataW H} {ps : List MemPlace}
    (h : DataW.Trod enc Try.prog w 0 spare held 22 (.slice A len cap) d ps) : ∃ os : List OpB, len = os.length ∧ OpBK.C w A os.length os ∧ ∀ o ∈ os, WfB o :=
  open_flat Try.underlying22 (by kernel_rfl) opB_el h
end Go.Proofs.Ytgendnoafemgpaa.Hand
namespace Go.Proofs.Ytgendnoafemgpaa.Hand
open Go.RowKit Go.Maps Go.Proofs.YtgendnoafemgpaaW.PrintWords
set_option linter.unusedVariables false
set_option linter.unusedSimpArgs false
theorem ops_len {w : World} {B : Option Addr} {os : List OpB} (h : OpBK.C w B os.length os) : os.length ≤ 9223372036854775807 := h.2.1
end Go.Proofs.Ytgendnoafemgpaa.Hand
namespace Go.Proofs.Ytgendnoafemgpaa.Hand
open Go.RowKit Go.Maps Go.Proofs.YtgendnoafemgpaaW.PrintWords
set_option linter.unusedVariables false
set_option linter.unusedSimpArgs false
end Go.Proofs.Ytgendnoafemgpaa.Hand
namespace Go.Proofs.Ytgendnoafemgpaa.Hand
open Go.RowKit Go.Maps Go.Proofs.YtgendnoafemgpaaW.PrintWords
set_option linter.unusedVariables false
set_option linter.unusedSimpArgs false
end Go.Proofs.Ytgendnoafemgpaa.Hand
namespace Go.Proofs.Ytgendnoafemgpaa.Hand
open Go.ChangeShapes Go.WideShapes Go.ChangeAt Go.RowKit Go.Maps Go.Proofs.YtgendnoafemgpaaW.PrintWords
set_option linter.unusedVariables false
set_option linter.unusedSimpArgs false
end Go.Proofs.Ytgendnoafemgpaa.Hand
namespace Go.Proofs.Ytgendnoafemgpaa.Hand
attribute [local go_sem] Oper.semAt_some
open Go.RowKit Go.Maps Go.Sort Go.Shelf Go.Proofs.YtgendnoafemgpaaW.PrintWords Go.Proofs.YtgendnoafemgpaaW.PrintLast Go.Proofs.Ytgendnoafemgpaa.PHandRB
set_option linter.unusedVariables false
set_option linter.unusedSimpArgs false
theorem Chain.le {bs : List Pc} {e U : Nat} (h : Chain e bs U) : e ≤ U := by
  induction bs generalizing e with
  | nil => exact h
  | cons q l ih => have := ih h.2.2; have := h.1; omega
theorem two_sets {W : World} {N : Nat} {x y : Value} {t t2 : TypeId} (h1 : W.heap[N]? = some (.cells #[x] t (0, 0))) (h2 : W.heap[N + 1]? = some (.cells #[y] t2 (0, 0))) (x2 y2 : Value) :
    ((W.setCell ⟨N, 0, none⟩ x2).setCell ⟨N + 1, 0, none⟩ y2).heap[N]? = some (.cells #[x2] t (0, 0)) ∧ ((W.setCell ⟨N, 0, none⟩ x2).setCell ⟨N + 1, 0, none⟩ y2).heap[N + 1]? = some (.cells #[y2] t2 (0, 0)) ∧
      Fr (fun b => b = N ∨ b = N + 1) W ((W.setCell ⟨N, 0, none⟩ x2).setCell ⟨N + 1, 0, none⟩ y2) := by
  refine ⟨?_, ?_, ((Fr.refl _ W).setCell (.inl (.inl rfl)) _).setCell (.inl (.inr rfl)) _⟩
  · have := blk_far (blk_set h1 0 x2) (a := ⟨N + 1, 0, none⟩) y2 (by simp)
    simpa using this
  · have := blk_set (blk_far h2 (a := ⟨N, 0, none⟩) x2 (by simp)) 0 y2
    simpa using this
end Go.Proofs.Ytgendnoafemgpaa.Hand
namespace Go.Proofs.Ytgendnoafemgpaa.Hand
attribute [local go_sem] Oper.semAt_some
open Go.RowKit Go.Maps Go.Sort Go.Shelf Go.Proofs.YtgendnoafemgpaaW.PrintWords Go.Proofs.YtgendnoafemgpaaW.PrintLast Go.Proofs.Ytgendnoafemgpaa.PHandRB
set_option linter.unusedVariables false
set_option linter.unusedSimpArgs false
/-- The mark that a range over a function leaves. -/
def markD (r : Nat) : Deferred := { target := .collected r, args := #[] }
/-- All of these are marks of ranges that have ended. -/
structure Marks (lo : Nat) (ms : List Nat) (w : World) : Prop where
  at_ : ∀ r ∈ ms, lo ≤ r ∧ w.heap[r]? = some (.deferred (some []))
  apart : ms.Nodup
theorem Marks.fr {lo : Nat} {ms : List Nat} {w w1 : World} {T : Nat → Prop} (h : Marks lo ms w) (hf : Fr T w w1) (hT : ∀ r o, T r → w.heap[r]? = some o → o ≠ .deferred (some [])) : Marks lo ms w1 :=
  ⟨fun r hr => ⟨(h.at_ r hr).1, hf.get (h.at_ r hr).2 (fun ht => hT r _ ht (h.at_ r hr).2 rfl)⟩, h.apart⟩
theorem Marks.below {lo : Nat} {ms : List Nat} {w w1 : World} (h : Marks lo ms w) (hb : Below w.heap.size w w1) : Marks lo ms w1 := h.fr (Fr.of_below hb (fun _ => False)) (fun _ _ h => h.elim)
theorem Marks.cons {lo : Nat} {ms : List Nat} {w : World} {r : Nat} (h : Marks lo ms w) (hr : w.heap[r]? = some (.deferred (some []))) (hlo : lo ≤ r) (hn : r ∉ ms) : Marks lo (r :: ms) w :=
  ⟨fun x hx => by rcases List.mem_cons.1 hx with rfl | hx; exact ⟨hlo, hr⟩; exact h.at_ x hx, List.nodup_cons.2 ⟨hn, h.apart⟩⟩
theorem leaves_marks {P : Program} {F : Fence} {n : Nat} {fn : Func} {tmps : Array Value} {R : Ending → World → Prop} {lo : Nat} : ∀ (ms : List Nat) (w : World), Marks lo ms w →
    (∀ w', (∀ b, b < lo → w'.heap[b]? = w.heap[b]?) → Below lo w w' → LeavesInM F n P fn tmps R [] .returning w') → lo ≤ w.heap.size → LeavesInM F n P fn tmps R (ms.map markD) .returning w
  | [], w, _, h, hl => h w (fun _ _ => rfl) (Below.refl _ _)
  | r :: ms, w, hm, h, hl => by
    obtain ⟨h1, h2⟩ := hm.at_ r (List.mem_cons_self ..)
    have hb : Below lo w (w.putObj r (.deferred none)) := itB.put h1 h2 rfl
    refine ⟨by simp, .inl ⟨r, _, rfl, run_takeDeferred h2, leaves_marks ms _ ⟨fun x hx => ?_, (List.nodup_cons.1 hm.apart).2⟩ (fun w' h3 h4 => h w' (fun b hb2 => (h3 b hb2).trans (hb.block b hb2)) (hb.trans h4)) (Nat.le_trans hl hb.size)⟩⟩
    obtain ⟨h3, h4⟩ := hm.at_ x (List.mem_cons_of_mem _ hx)
    exact ⟨h3, (World.putObj_heap_other (fun e => (List.nodup_cons.1 hm.apart).1 (by rw [← e]; exact hx))).trans h4⟩
theorem most_gsum : ∀ (gs : List Pc), mostN gs ≤ gsum gs := fun gs => by
  have key : ∀ (gs : List Pc) (m : Nat), gs.foldl (fun m g => max m g.2) m ≤ m + gsum gs := by
    intro gs
    induction gs with
    | nil => intro m; simp [gsum]
    | cons g l ih =>
      intro m
      have h1 := ih (max m g.2)
      have h2 : gsum (g :: l) = g.2 + gsum l := by simp [gsum]
      rw [List.foldl_cons, h2]
      have h3 : max m g.2 ≤ m + g.2 := by omega
      omega
  have := key gs 0
  rw [mostN]
  omega
/-- What the range over the blocks holds. -/
structure ApI (N V : Nat) (bs : List Pc) (wx : World) (k : Nat) (W : World) : Prop where
  ex : ∃ e : Nat, Chain e (bs.drop k) V ∧ W.heap[N]? = some (.cells #[.int .i64 (e : Int)] 3 (0, 0))
  n : W.heap[N + 1]? = some (.cells #[.int .i64 ((gsum (bs.take k) : Nat) : Int)] 3 (0, 0))
  fr : Fr (fun b => b = N ∨ b = N + 1) wx W
set_option maxRecDepth 100000 in
set_option maxHeartbeats 4000000 in
theorem apart_bad1 (U : Int) (B : Option Addr) (d : Nat) (os : List OpB) (w : World) (hU : U < 0 ∨ 1024 < U) :
    Calls Try.prog 3 #[.int .i64 U, .slice B os.length d] w fun e w' => e = .returned (.bool true) ∧ Below w.heap.size w w' := by
  have L6 := Aside0.mk (heap_alloc_new w (.cells #[.bool false] 4))
  have HB1 := Aside0.mk (show Below w.heap.size w (w.alloc (.cells #[.bool false] 4)) from below_alloc (Below.refl _ _) _)
  have HU := Aside0.mk hU
  clear hU
  go_enter Try.func3, Try.ntmps3
  go_wp2_with (first | (go_at_call 11; (with_reducible refine (bk_alive _).mono ?_); rintro e wA ⟨rfl, hbA⟩; have HBA := Aside0.mk (bel_stepB HB1.out hbA); have q6 := (hbA.block w.heap.size (blk_lt L6.out)).trans L6.out; have e6 := blk_cell q6 (i := 0) rfl; have f6 := blk_free q6 0; have Q6 := Aside0.mk q6; clear hbA q6) | (go_at_call 10; (with_reducible refine (new_bad _ U HU.out).mono ?_); rintro e w1 ⟨rfl, rfl⟩))
  (obtain ⟨V, hV⟩ : ∃ V, V = wA.setCell ⟨w.heap.size, 0, none⟩ (.bool true) := ⟨_, rfl⟩; rw [← hV]; have hVB : V.heap[w.heap.size]? = some (.cells #[.bool true] 4 (0, 0)) := (by rw [hV]; have := blk_set Q6.out 0 (.bool true); simpa using this); have hWV : Below w.heap.size w V := (by rw [hV]; exact HBA.out.setCell (p := ⟨w.heap.size, 0, none⟩) (by simp) _); refine bodyPost_ret (results_c1 rfl _ _ w.heap.size _ rfl hVB Try.underlying4 rfl) rfl ⟨rfl, hWV⟩)
set_option maxRecDepth 100000 in
set_option maxHeartbeats 4000000 in
theorem apart_bad2 (V : Nat) (B : Option Addr) (d : Nat) (os : List OpB) (w : World) (hU : V ≤ 1024) (hln : os.length ≤ 9223372036854775807) (hl : 200 < os.length) :
    Calls Try.prog 3 #[.int .i64 (V : Int), .slice B os.length d] w fun e w' => e = .returned (.bool true) ∧ Below w.heap.size w w' := by
  have K6 := Aside0.mk (heap_alloc_new w (.cells #[.bool false] 4))
  have HB0 := Aside0.mk (show Below w.heap.size w (w.alloc (.cells #[.bool false] 4)) from below_alloc (Below.refl _ _) _)
  have hl2 : (200 : Int) < os.length := by omega
  go_enter Try.func3, Try.ntmps3
  go_wp2_with (first | (go_at_call 11; (with_reducible refine (bk_alive _).mono ?_); rintro e wA ⟨rfl, hbA⟩; have HBA := Aside0.mk (bel_stepB HB1.out hbA); have q6 := (hbA.block w.heap.size (blk_lt L6.out)).trans L6.out; have e6 := blk_cell q6 (i := 0) rfl; have f6 := blk_free q6 0; have Q6 := Aside0.mk q6; clear hbA q6) | (go_at_call 10; (with_reducible refine (new_good _ V hU).mono ?_); rintro e w1 ⟨p, s, rfl, hb1, hbw1, hp1, hs1⟩; have HB1 := Aside0.mk (bel_stepB HB0.out hbw1); have L6 := Aside0.mk ((hbw1.block _ (blk_lt K6.out)).trans K6.out); clear hb1 hbw1 hp1 hs1))
  (obtain ⟨V, hV⟩ : ∃ V, V = wA.setCell ⟨w.heap.size, 0, none⟩ (.bool true) := ⟨_, rfl⟩; rw [← hV]; have hVB : V.heap[w.heap.size]? = some (.cells #[.bool true] 4 (0, 0)) := (by rw [hV]; have := blk_set Q6.out 0 (.bool true); simpa using this); have hWV : Below w.heap.size w V := (by rw [hV]; exact HBA.out.setCell (p := ⟨w.heap.size, 0, none⟩) (by simp) _); refine bodyPost_ret (results_c1 rfl _ _ w.heap.size _ rfl hVB Try.underlying4 rfl) rfl ⟨rfl, hWV⟩)
set_option maxRecDepth 100000 in
set_option maxHeartbeats 8000000 in
theorem apart_good (V : Nat) (B : Option Addr) (d : Nat) (os : List OpB) (w : World) (hU : V ≤ 1024) (ho : OpBK.C w B os.length os) (hwo : ∀ o ∈ os, WfB o) (hl : os.length ≤ 200) :
    Calls Try.prog 3 #[.int .i64 (V : Int), .slice B os.length d] w fun e w' => e = .returned (.bool true) ∧ Below w.heap.size w w' := by
  obtain ⟨wb, hwb⟩ : ∃ wb, wb = w.alloc (.cells #[.bool false] 4) := ⟨_, rfl⟩
  have hk6 : wb.heap[w.heap.size]? = some (.cells #[.bool false] 4 (0, 0)) := by rw [hwb]; exact heap_alloc_new w _
  have hW0 : Below w.heap.size w wb := by rw [hwb]; exact below_alloc (Below.refl _ _) _
  have K6 := Aside0.mk hk6
  have HW0 := Aside0.mk hW0
  have HWB := Aside0.mk hwb
  have HO := Aside0.mk ho
  have HWO := Aside0.mk hwo
  clear hk6 hW0 hwb ho hwo
  refine (callsIn_wide (n := 15)).1 ?_
  refine callsIn_of_wp_marks Try.func3 rfl trivial ?_ rfl
  simp only [Try.ntmps3, List.size_toArray, List.length_cons, List.length_nil, Nat.reduceAdd, Nat.reduceSub, Array.replicate_succ, Array.replicate_zero, List.push_toArray, List.append_toArray, List.nil_append, List.cons_append]
  refine wpIn_wide.2 ?_
  go_wp2_with (go_at_call 10; rw [← HWB.out]; (with_reducible refine (new_good _ V hU).mono ?_); rintro e w1 ⟨p, s, rfl, hb1, hbw1, hp1, hs1⟩; have HB1 := Aside0.mk hbw1; have HH1 := Aside0.mk hb1; have HP1 := Aside0.mk hp1; have HS1 := Aside0.mk hs1; clear hb1 hbw1 hp1 hs1)
  refine wp_loop (fun a' wr => ∃ (k : Nat) (bk : List Pc) (ms : List Nat) (u8 u9 u10 u11 u12 u32 u33 u34 u35 u36 u37 u38 u39 u40 u41 u42 u43 u44 u45 u46 u47 u48 u49 u50 u51 u52 u53 u54 u55 u56 u57 u58 u59 u60 u61 u62 u63 u64 u65 u66 u67 u68 u69 u70 u71 u72 u73 u74 u75 u76 u77 u78 : Value), (k ≤ os.length ∧ u32 = .int .i64 (k : Int) ∧ Aside0 (HasB wr p s V bk) ∧ Aside0 (Below wb.heap.size wb wr) ∧ Aside0 (Marks wb.heap.size ms wr)) ∧ a' = { tmps := #[.int .i64 (V : Int), .slice B os.length d, undef, undef, .pointer (some ⟨w.heap.size, 0, none⟩), .pointer (some ⟨p, 0, none⟩), .int .i64 0, undef, u8, u9, u10, u11, u12, .tuple #[.pointer (some ⟨p, 0, none⟩), .int .i64 0], .int .i64 (V : Int), .tuple #[.pointer (some ⟨p, 0, none⟩), .int .i64 0], .pointer (some ⟨p, 0, none⟩), .int .i64 0, .int .i64 0, .bool false, .bool false, .pointer (some ⟨p, 0, none⟩), .bool false, .bool false, .bool false, .slice B os.length d, .int .i64 (os.length : Int), .bool (decide (200 < (os.length : Int))), .bool (decide (200 < (os.length : Int))), undef, .slice B os.length d, .int .i64 (os.length : Int), u32, u33, u34, u35, u36, u37, u38, u39, u40, u41, u42, u43, u44, u45, u46, u47, u48, u49, u50, u51, u52, u53, u54, u55, u56, u57, u58, u59, u60, u61, u62, u63, u64, u65, u66, u67, u68, u69, u70, u71, u72, u73, u74, u75, u76, u77, u78, undef], defers := ms.map markD }) (fun a' _ => (os.length - intOf (a'.tmps.getD 32 undef)).toNat) ?start ?round
  case start =>
    refine ⟨0, [], [], ?_⟩
    (repeat apply Exists.intro)
    refine ⟨?_, rfl⟩
    exact ⟨Nat.zero_le _, rfl, HH1, HB1, ⟨⟨fun _ h => (by cases h), List.nodup_nil⟩⟩⟩
  case round =>
    clear HH1 HB1
    rintro a' wr ⟨k, bk, ms, u8, u9, u10, u11, u12, u32, u33, u34, u35, u36, u37, u38, u39, u40, u41, u42, u43, u44, u45, u46, u47, u48, u49, u50, u51, u52, u53, u54, u55, u56, u57, u58, u59, u60, u61, u62, u63, u64, u65, u66, u67, u68, u69, u70, u71, u72, u73, u74, u75, u76, u77, u78, ⟨hk, rfl, HHk, HBk, HMk⟩, rfl⟩
    dsimp only
    obtain ⟨dsx, hdsx⟩ : ∃ dsx, dsx = ms.map markD := ⟨_, rfl⟩
    have HDS := Aside0.mk hdsx
    rw [← hdsx]
    clear hdsx
    by_cases hlt : k < os.length
    · obtain ⟨o, hx⟩ : ∃ o, os[k]? = some o := ⟨_, List.getElem?_eq_getElem hlt⟩
      obtain ⟨bb, ob, hB, hcb⟩ := C_at (Kd.C_below HO.out (bel_stepB HW0.out HBk.out)) (by decide) hx
      subst hB
      obtain ⟨hwa, hwn⟩ := HWO.out o (List.mem_of_getElem? hx)
      have HWA := Aside0.mk hwa
      have HWN := Aside0.mk hwn
      obtain ⟨q0, a, n⟩ := o
      have b0 : wr.cell? ⟨bb, ob + k * 3, none⟩ = some (.int .i64 q0) := hcb 0 (by decide)
      have b1 : wr.cell? ⟨bb, ob + k * 3 + 1, none⟩ = some (.int .i64 a) := hcb 1 (by decide)
      have b2 : wr.cell? ⟨bb, ob + k * 3 + 2, none⟩ = some (.int .i64 n) := hcb 2 (by decide)
      clear hcb hx hwa hwn
      go_wp2_with (first | (go_at_call 12; (with_reducible refine (does_calls _ p s V bk (HHk.out.below (below_alloc (Below.refl _ _) _)) q0 a n HWA.out HWN.out).mono ?_); rintro e w5 ⟨rfl, hh5, hf5⟩; have HH5 := Aside0.mk hh5; have HB5 := Aside0.mk ((below_alloc HBk.out _).trans (hf5.below _ (below_alloc HBk.out _).size (fun b (hb : b = s) => by rw [hb]; exact HS1.out))); have HM5 := Aside0.mk ((HMk.out.below (below_alloc (Below.refl _ _) _)).fr hf5 (fun r o hr ho => by obtain ⟨es, cl, he⟩ := (HHk.out.below (below_alloc (Below.refl _ _) _)).map.blk; rw [show r = s from hr, he] at ho; cases ho; simp)); clear hh5 hf5) | (go_at_call 13; (with_reducible refine (each_calls _ p).mono ?_); rintro e w6 ⟨rfl, rfl⟩))
      obtain ⟨bn, hbn⟩ : ∃ bn, bn = (doR V bk q0 a n).1 := ⟨_, rfl⟩
      rw [← hbn] at HH5
      obtain ⟨N, hN⟩ : ∃ N, N = w5.heap.size := ⟨_, rfl⟩
      obtain ⟨wx, hwx⟩ : ∃ wx, wx = (((w5.alloc (Obj.cells #[Value.int IntKind.i64 0] 3)).alloc (Obj.cells #[Value.int IntKind.i64 0] 3)).alloc (Obj.cells #[Value.pointer (some { block := p, off := 0 })] 23)) := ⟨_, rfl⟩
      rw [← hwx, ← hN]
      have hzx : wx.heap.size = N + 3 := by rw [hwx, hN]; simp
      have HBX := Aside0.mk (show Below w5.heap.size w5 wx by rw [hwx]; exact below_alloc (below_alloc (below_alloc (Below.refl _ _) _) _) _)
      have g0 : wx.heap[N]? = some (.cells #[.int .i64 ((0 : Nat) : Int)] 3 (0, 0)) := by rw [hwx, hN]; exact old_blk (old_blk (heap_alloc_new w5 _) _) _
      have g1 : wx.heap[N + 1]? = some (.cells #[.int .i64 ((0 : Nat) : Int)] 3 (0, 0)) := by rw [hwx, hN]; exact old_blk (alloc_two w5 _ _) _
      have g2 : wx.heap[N + 2]? = some (.cells #[.pointer (some ⟨p, 0, none⟩)] 23 (0, 0)) := by rw [hwx, hN]; exact alloc_three w5 _ _ _
      have lp := HH5.out.p_lt
      have ls := HH5.out.s_lt
      rw [← hN] at lp ls
      have HX1 := Aside0.mk (HH5.out.below HBX.out)
      have hseq := each_seq wx (N + 2) p s V bn HX1.out (blk_cell g2 rfl)
      have HMX := Aside0.mk (HM5.out.below HBX.out)
      have HG0 := Aside0.mk g0
      have HG1 := Aside0.mk g1
      have HZ := Aside0.mk hzx
      have HNN := Aside0.mk hN
      have hlb : wb.heap.size ≤ N := by rw [hN]; exact HB5.out.size
      clear hwx g0 g1 g2 hbn hN b0 b1 b2 HMk HHk HBk HO
      refine wpIn_wide (n := 14).1 ?_
      refine range_listA itG (xs := bn) (enc := encP) rfl (enters_of Try.func29 (by kernel_rfl) rfl) hseq (Below.refl _ _) (fun b hb => ?_) (fun _ => rfl)
        (fun W' => Below (N + 3) wx W') (fun _ k W' => ApI N V bn wx k W') (fun _ _ _ _ => False) ?hI0 ?hI ?hIx ?hstart ?h0 ?a1 ?assign ?body ?done ?stop
      · rcases hb with rfl | rfl | rfl <;> omega
      case hI0 =>
        rintro P Q hA h1 hg
        have hg2 := itG.below hA hg
        rw [hzx] at hg2
        exact h1.trans hg2
      case hI =>
        rintro _ k P Q hA ⟨⟨e, h1, h2⟩, h3, h5⟩ hg
        have hg2 := itG.below hA hg
        rw [hzx] at hg2
        exact ⟨⟨e, h1, (hg2.block _ (by omega)).trans h2⟩, (hg2.block _ (by omega)).trans h3, h5.trans (T := fun b => N + 3 ≤ b) ⟨hg2.os, hg2.tape, hg2.output, hg2.size, fun b _ hb => hg2.block b (by omega)⟩ (fun b hb hl => by rw [hzx] at hl; omega)⟩
      case hIx => intro _ _ _ _ _ _ h; exact h.elim
      case hstart =>
        rintro _ W' _ _ h3
        exact ⟨⟨0, by rw [List.drop_zero]; exact HX1.out.ok, (h3.block _ (by omega)).trans HG0.out⟩, (h3.block _ (by omega)).trans HG1.out, Fr.of_below (by rw [hzx]; exact h3) _⟩
      case h0 => exact Below.refl _ _
      case assign =>
        intro l' x W' K hK
        simp only [encP]
        gi_wp2
        exact hK
      case body =>
        rintro l' M j ⟨a2, n2⟩ W' hx hM hMW ⟨⟨e, g2, g4⟩, gn, gfr⟩
        rw [hzx] at hM
        have hdr : bn.drop j = (a2, n2) :: bn.drop (j + 1) := by
          obtain ⟨hlt, he⟩ := List.getElem?_eq_some_iff.1 hx
          rw [List.drop_eq_getElem_cons hlt, he]
        rw [hdr] at g2
        obtain ⟨g5, g6, g7⟩ := g2
        simp only at g5 g6 g7
        have gU := g7.le
        have hle := gsum_take bn (j + 1)
        have hgl := gsum_le HX1.out.ok
        have hGX := take_snoc hx
        rw [hGX, gsum_snoc] at hle
        simp only at hle
        have HGX := Aside0.mk hGX
        have HG7 := Aside0.mk g7
        have HG4 := Aside0.mk g4
        have HGN := Aside0.mk gn
        have HGF := Aside0.mk gfr
        have ce := blk_cell g4 (i := 0) rfl
        have cf := blk_free g4 0
        have cn := blk_cell gn (i := 0) rfl
        have cg := blk_free gn 0
        obtain ⟨G, hG⟩ : ∃ G, G = gsum (bn.take j) := ⟨_, rfl⟩
        rw [← hG] at cn hle
        have HGG := Aside0.mk hG
        have hw2 : IntKind.i64.wrap ((a2 : Int) + n2) = a2 + n2 := IntWalk.i64_in _ (by omega)
        have hw3 : IntKind.i64.wrap ((G : Int) + n2) = G + n2 := IntWalk.i64_in _ (by omega)
        have hg5 : ¬ (a2 : Int) < e := by omega
        have hg6 : ¬ (n2 : Int) < 1 := by omega
        clear hx g4 gn gfr g7 hMW hdr hseq hGX hG hle hgl
        gi_wp2
        obtain ⟨r1, r2, r3⟩ := two_sets HG4.out HGN.out (.int .i64 ((a2 : Int) + n2)) (.int .i64 ((G : Int) + n2))
        refine ⟨KeepI.of_fr r3 (fun b _ hb h => ?_), ⟨⟨a2 + n2, HG7.out, by simpa using r1⟩, by rw [HGX.out, gsum_snoc, ← HGG.out]; simpa using r2, HGF.out.trans' r3⟩⟩
        rcases h with h | h
        · rcases hb with rfl | rfl <;> omega
        · rcases h with h | h | h
          · rcases hb with rfl | rfl <;> omega
          · rcases hb with rfl | rfl <;> omega
          · rcases hb with rfl | rfl <;> omega
      case done =>
        rintro _ W' _ hMW ⟨⟨e, h1, h2⟩, h3, h5⟩ hD
        rw [List.drop_length] at h1
        rw [List.take_length] at h3
        have heV : e ≤ V := h1
        clear hseq
        have hT0 : Below w5.heap.size w5 W' := HBX.out.trans (h5.below _ HBX.out.size (fun b hb => by have := HNN.out; omega))
        have HT0 := Aside0.mk hT0
        have c9 := blk_cell h2 (i := 0) rfl
        have c10 := blk_cell h3 (i := 0) rfl
        have HMW := Aside0.mk (HMX.out.fr h5 (fun r o hr ho => by
          rcases hr with rfl | rfl
          · rw [HG0.out] at ho; cases ho; simp
          · rw [HG1.out] at ho; cases ho; simp))
        have HD := Aside0.mk hD
        have hgl := gsum_le HH5.out.ok
        have hmg := most_gsum (gaps 0 bn V)
        obtain ⟨ei, hei⟩ : ∃ ei : Int, ei = (e : Int) := ⟨_, rfl⟩
        obtain ⟨G, hG⟩ : ∃ G : Int, G = ((gsum bn : Nat) : Int) := ⟨_, rfl⟩
        obtain ⟨m, hm⟩ : ∃ m : Int, m = ((mostN (gaps 0 bn V) : Nat) : Int) := ⟨_, rfl⟩
        rw [← hG] at c10
        rw [← hei] at c9
        have HGG := Aside0.mk hG
        have HMG := Aside0.mk hm
        have hev : decide ((V : Int) < ei) = false := decide_eq_false (by omega)
        have hwv : IntKind.i64.wrap ((V : Int) - G) = V - G := IntWalk.i64_in _ (by omega)
        have hvm : decide ((V : Int) - G < m) = false := decide_eq_false (by omega)
        have hm0 : decide (m < 0) = false := decide_eq_false (by omega)
        clear hT0 h2 h3 h5 hD hG hm hmg hgl h1 hMW hei heV
        go_wp2
        refine wpIn_wide (n := 14).1 ?_
        refine Ystart_ (m := 22) (S := fun w' => w'.cell? ⟨N, 0, none⟩ = some (.int .i64 ei) ∧ w'.cell? ⟨N + 1, 0, none⟩ = some (.int .i64 G)) (ds := []) #[false, false, false, false, false, false, false, false, false, false, false, false, false, false, false, false, false, false, false, false, false, false] (by kernel_rfl) rfl rfl (fun _ => trivial) (by kernel_rfl) ⟨c9, c10⟩ (fun hHeld => ?_)
        refine Ypure_ (i := 1) (N := some 57) (v := ?_) (a' := ?_) #[false, true, false, false, false, false, false, false, false, false, false, false, false, false, false, false, false, false, false, false, false, false] rfl rfl (by kernel_rfl) (fun _ _ _ h => h) (Or.inl ⟨by rfl, ?_⟩) ?_ ?_
        rotate_left
        · intro w'
          go_simp
          with_reducible rfl
        rotate_left
        · simp only [Act.put, List.setIfInBounds_toArray, List.set_cons_zero, List.set_cons_succ, i64_w, i32_w]
          rfl
        refine Ytake_ (i := 0) (N := some 56) (v := ?_) (a' := ?_) #[true, true, false, false, false, false, false, false, false, false, false, false, false, false, false, false, false, false, false, false, false, false] rfl rfl (by kernel_rfl) (fun _ _ _ h => h) (Or.inl ⟨by rfl, ?_⟩) hHeld ?_ ?_
        rotate_left
        · rintro w' ⟨s0, s1⟩
          go_simp
          with_reducible rfl
        rotate_left
        · simp only [Act.put, List.setIfInBounds_toArray, List.set_cons_zero, List.set_cons_succ, i64_w, i32_w]
          rfl
        refine Ypure_ (i := 2) (N := some 58) (v := ?_) (a' := ?_) #[true, true, true, false, false, false, false, false, false, false, false, false, false, false, false, false, false, false, false, false, false, false] rfl rfl (by kernel_rfl) (fun _ _ _ h => h) (Or.inl ⟨by rfl, ?_⟩) ?_ ?_
        rotate_left
        · intro w'
          go_simp
          with_reducible rfl
        rotate_left
        · simp only [Act.put, List.setIfInBounds_toArray, List.set_cons_zero, List.set_cons_succ, i64_w, i32_w]
          rfl
        refine Ypure_ (i := 3) (N := some 59) (v := ?_) (a' := ?_) #[true, true, true, true, false, false, false, false, false, false, false, false, false, false, false, false, false, false, false, false, false, false] rfl rfl (by kernel_rfl) (fun _ _ _ h => h) (Or.inl ⟨by rfl, ?_⟩) ?_ ?_
        rotate_left
        · intro w'
          go_simp
          with_reducible rfl
        rotate_left
        · simp only [Act.put, List.setIfInBounds_toArray, List.set_cons_zero, List.set_cons_succ, i64_w, i32_w]
          rfl
        refine Ypure_ (i := 5) (N := some 61) (v := ?_) (a' := ?_) #[true, true, true, true, false, true, false, false, false, false, false, false, false, false, false, false, false, false, false, false, false, false] rfl rfl (by kernel_rfl) (fun _ _ _ h => h) (Or.inl ⟨by rfl, ?_⟩) ?_ ?_
        rotate_left
        · intro w'
          go_simp
          with_reducible rfl
        rotate_left
        · simp only [Act.put, List.setIfInBounds_toArray, List.set_cons_zero, List.set_cons_succ, i64_w, i32_w]
          rfl
        refine Ytake_ (i := 4) (N := some 60) (v := ?_) (a' := ?_) #[true, true, true, true, true, true, false, false, false, false, false, false, false, false, false, false, false, false, false, false, false, false] rfl rfl (by kernel_rfl) (fun _ _ _ h => h) (Or.inl ⟨by rfl, ?_⟩) hHeld ?_ ?_
        rotate_left
        · rintro w' ⟨s0, s1⟩
          go_simp
          with_reducible rfl
        rotate_left
        · simp only [Act.put, List.setIfInBounds_toArray, List.set_cons_zero, List.set_cons_succ, i64_w, i32_w]
          rfl
        refine Yone_ (i := 6) (N := some 62) #[true, true, true, true, true, true, true, false, false, false, false, false, false, false, false, false, false, false, false, false, false, false] rfl rfl (by kernel_rfl) (by decide) (fun K hK => ?_)
        refine Ygoes_ Try.func14 (by kernel_rfl) rfl #[.pointer (some ⟨p, 0, none⟩)] (by rfl) rfl rfl (by simp only [List.map_toArray, List.map_cons, List.map_nil]; rfl) (by first | exact .inl rfl | exact .inr ⟨_, rfl⟩) ?_
        with_reducible refine (used_calls _ p s V bn (HH5.out.below (bel_stepB HT0.out (show Below W'.heap.size W' W'.drew from (Below.refl _ _).drew)))).mono ?_
        rintro e w7 ⟨rfl, hb7⟩
        refine ⟨_, rfl, ?_⟩
        have HB7 := Aside0.mk hb7
        have HT7 := Aside0.mk (bel_stepB (show Below W'.heap.size W' W'.drew from (Below.refl _ _).drew) hb7)
        clear hb7
        rw [← HGG.out]
        refine hK.out _ _ ⟨(bel_cellB HB7.out hHeld.1), (bel_cellB HB7.out hHeld.2)⟩ (fun hHeld => ?_)
        clear hK K
        refine Ynorm_ (a' := ?_) ?_ ?_
        rotate_left
        · show Act.put _ (some 62) _ = _
          simp only [Act.put, List.setIfInBounds_toArray, List.set_cons_zero, List.set_cons_succ, i64_w, i32_w]
          rfl
        refine Ypure_ (i := 7) (N := some 63) (v := ?_) (a' := ?_) #[true, true, true, true, true, true, true, true, false, false, false, false, false, false, false, false, false, false, false, false, false, false] rfl rfl (by kernel_rfl) (fun _ _ _ h => h) (Or.inl ⟨by rfl, ?_⟩) ?_ ?_
        rotate_left
        · intro w'
          go_simp
          with_reducible rfl
        rotate_left
        · simp only [Act.put, List.setIfInBounds_toArray, List.set_cons_zero, List.set_cons_succ, i64_w, i32_w]
          rfl
        refine Ypure_ (i := 8) (N := some 64) (v := ?_) (a' := ?_) #[true, true, true, true, true, true, true, true, true, false, false, false, false, false, false, false, false, false, false, false, false, false] rfl rfl (by kernel_rfl) (fun _ _ _ h => h) (Or.inl ⟨by rfl, ?_⟩) ?_ ?_
        rotate_left
        · intro w'
          go_simp
          with_reducible rfl
        rotate_left
        · simp only [Act.put, List.setIfInBounds_toArray, List.set_cons_zero, List.set_cons_succ, i64_w, i32_w]
          rfl
        refine Ypure_ (i := 9) (N := some 65) (v := ?_) (a' := ?_) #[true, true, true, true, true, true, true, true, true, true, false, false, false, false, false, false, false, false, false, false, false, false] rfl rfl (by kernel_rfl) (fun _ _ _ h => h) (Or.inl ⟨by rfl, ?_⟩) ?_ ?_
        rotate_left
        · intro w'
          go_simp
          with_reducible rfl
        rotate_left
        · simp only [Act.put, List.setIfInBounds_toArray, List.set_cons_zero, List.set_cons_succ, i64_w, i32_w]
          rfl
        refine Ypure_ (i := 10) (N := some 66) (v := ?_) (a' := ?_) #[true, true, true, true, true, true, true, true, true, true, true, false, false, false, false, false, false, false, false, false, false, false] rfl rfl (by kernel_rfl) (fun _ _ _ h => h) (Or.inl ⟨by rfl, ?_⟩) ?_ ?_
        rotate_left
        · intro w'
          go_simp
          with_reducible rfl
        rotate_left
        · simp only [Act.put, List.setIfInBounds_toArray, List.set_cons_zero, List.set_cons_succ, i64_w, i32_w]
          rfl
        refine Ypure_ (i := 12) (N := some 68) (v := ?_) (a' := ?_) #[true, true, true, true, true, true, true, true, true, true, true, false, true, false, false, false, false, false, false, false, false, false] rfl rfl (by kernel_rfl) (fun _ _ _ h => h) (Or.inl ⟨by rfl, ?_⟩) ?_ ?_
        rotate_left
        · intro w'
          go_simp
          with_reducible rfl
        rotate_left
        · simp only [Act.put, List.setIfInBounds_toArray, List.set_cons_zero, List.set_cons_succ, i64_w, i32_w]
          rfl
        refine Ytake_ (i := 13) (N := some 69) (v := ?_) (a' := ?_) #[true, true, true, true, true, true, true, true, true, true, true, false, true, true, false, false, false, false, false, false, false, false] rfl rfl (by kernel_rfl) (fun _ _ _ h => h) (Or.inl ⟨by rfl, ?_⟩) hHeld ?_ ?_
        rotate_left
        · rintro w' ⟨s0, s1⟩
          go_simp
          with_reducible rfl
        rotate_left
        · simp only [Act.put, List.setIfInBounds_toArray, List.set_cons_zero, List.set_cons_succ, i64_w, i32_w]
          rfl
        refine Ypure_ (i := 14) (N := some 70) (v := ?_) (a' := ?_) #[true, true, true, true, true, true, true, true, true, true, true, false, true, true, true, false, false, false, false, false, false, false] rfl rfl (by kernel_rfl) (fun _ _ _ h => h) (Or.inl ⟨by rfl, ?_⟩) ?_ ?_
        rotate_left
        · intro w'
          go_simp
          with_reducible rfl
        rotate_left
        · simp only [Act.put, List.setIfInBounds_toArray, List.set_cons_zero, List.set_cons_succ, i64_w, i32_w]
          rfl
        refine Yone_ (i := 11) (N := some 67) #[true, true, true, true, true, true, true, true, true, true, true, true, true, true, true, false, false, false, false, false, false, false] rfl rfl (by kernel_rfl) (by decide) (fun K hK => ?_)
        refine Ygoes_ Try.func15 (by kernel_rfl) rfl #[.pointer (some ⟨p, 0, none⟩)] (by rfl) rfl rfl (by simp only [List.map_toArray, List.map_cons, List.map_nil]; rfl) (by first | exact .inl rfl | exact .inr ⟨_, rfl⟩) ?_
        with_reducible refine (largest_calls _ p s V bn (HH5.out.below (bel_stepB HT0.out HT7.out))).mono ?_
        rintro e w8 ⟨rfl, hb8⟩
        refine ⟨_, rfl, ?_⟩
        have HB8 := Aside0.mk hb8
        have HT8 := Aside0.mk (bel_stepB HT7.out hb8)
        clear hb8
        rw [← HMG.out]
        refine hK.out _ _ ⟨(bel_cellB HB8.out hHeld.1), (bel_cellB HB8.out hHeld.2)⟩ (fun hHeld => ?_)
        clear hK K
        refine Ynorm_ (a' := ?_) ?_ ?_
        rotate_left
        · show Act.put _ (some 67) _ = _
          simp only [Act.put, List.setIfInBounds_toArray, List.set_cons_zero, List.set_cons_succ, i64_w, i32_w]
          rfl
        refine Ypure_ (i := 15) (N := some 71) (v := ?_) (a' := ?_) #[true, true, true, true, true, true, true, true, true, true, true, true, true, true, true, true, false, false, false, false, false, false] rfl rfl (by kernel_rfl) (fun _ _ _ h => h) (Or.inl ⟨by rfl, ?_⟩) ?_ ?_
        rotate_left
        · intro w'
          go_simp
          with_reducible rfl
        rotate_left
        · simp only [Act.put, List.setIfInBounds_toArray, List.set_cons_zero, List.set_cons_succ, i64_w, i32_w]
          rfl
        refine Ypure_ (i := 16) (N := some 72) (v := ?_) (a' := ?_) #[true, true, true, true, true, true, true, true, true, true, true, true, true, true, true, true, true, false, false, false, false, false] rfl rfl (by kernel_rfl) (fun _ _ _ h => h) (Or.inl ⟨by rfl, ?_⟩) ?_ ?_
        rotate_left
        · intro w'
          go_simp
          with_reducible rfl
        rotate_left
        · simp only [Act.put, List.setIfInBounds_toArray, List.set_cons_zero, List.set_cons_succ, i64_w, i32_w]
          rfl
        refine Ypure_ (i := 17) (N := some 73) (v := ?_) (a' := ?_) #[true, true, true, true, true, true, true, true, true, true, true, true, true, true, true, true, true, true, false, false, false, false] rfl rfl (by kernel_rfl) (fun _ _ _ h => h) (Or.inl ⟨by rfl, ?_⟩) ?_ ?_
        rotate_left
        · intro w'
          go_simp
          with_reducible rfl
        rotate_left
        · simp only [Act.put, List.setIfInBounds_toArray, List.set_cons_zero, List.set_cons_succ, i64_w, i32_w]
          rfl
        refine Ypure_ (i := 18) (N := some 74) (v := ?_) (a' := ?_) #[true, true, true, true, true, true, true, true, true, true, true, true, true, true, true, true, true, true, true, false, false, false] rfl rfl (by kernel_rfl) (fun _ _ _ h => h) (Or.inl ⟨by rfl, ?_⟩) ?_ ?_
        rotate_left
        · intro w'
          go_simp
          with_reducible rfl
        rotate_left
        · simp only [Act.put, List.setIfInBounds_toArray, List.set_cons_zero, List.set_cons_succ, i64_w, i32_w]
          rfl
        refine Yone_ (i := 19) (N := some 75) #[true, true, true, true, true, true, true, true, true, true, true, true, true, true, true, true, true, true, true, true, false, false] rfl rfl (by kernel_rfl) (by decide) (fun K hK => ?_)
        refine Ygoes_ Try.func15 (by kernel_rfl) rfl #[.pointer (some ⟨p, 0, none⟩)] (by rfl) rfl rfl (by simp only [List.map_toArray, List.map_cons, List.map_nil]; rfl) (by first | exact .inl rfl | exact .inr ⟨_, rfl⟩) ?_
        with_reducible refine (largest_calls _ p s V bn (HH5.out.below (bel_stepB HT0.out HT8.out))).mono ?_
        rintro e w9 ⟨rfl, hb9⟩
        refine ⟨_, rfl, ?_⟩
        have HB9 := Aside0.mk hb9
        have HT9 := Aside0.mk (bel_stepB HT8.out hb9)
        clear hb9
        rw [← HMG.out]
        refine hK.out _ _ ⟨(bel_cellB HB9.out hHeld.1), (bel_cellB HB9.out hHeld.2)⟩ (fun hHeld => ?_)
        clear hK K
        refine Ynorm_ (a' := ?_) ?_ ?_
        rotate_left
        · show Act.put _ (some 75) _ = _
          simp only [Act.put, List.setIfInBounds_toArray, List.set_cons_zero, List.set_cons_succ, i64_w, i32_w]
          rfl
        refine Ypure_ (i := 20) (N := some 76) (v := ?_) (a' := ?_) #[true, true, true, true, true, true, true, true, true, true, true, true, true, true, true, true, true, true, true, true, true, false] rfl rfl (by kernel_rfl) (fun _ _ _ h => h) (Or.inl ⟨by rfl, ?_⟩) ?_ ?_
        rotate_left
        · intro w'
          go_simp
          with_reducible rfl
        rotate_left
        · simp only [Act.put, List.setIfInBounds_toArray, List.set_cons_zero, List.set_cons_succ, i64_w, i32_w]
          rfl
        refine Ypure_ (i := 21) (N := some 77) (v := ?_) (a' := ?_) #[true, true, true, true, true, true, true, true, true, true, true, true, true, true, true, true, true, true, true, true, true, true] rfl rfl (by kernel_rfl) (fun _ _ _ h => h) (Or.inl ⟨by rfl, ?_⟩) ?_ ?_
        rotate_left
        · intro w'
          go_simp
          with_reducible rfl
        rotate_left
        · simp only [Act.put, List.setIfInBounds_toArray, List.set_cons_zero, List.set_cons_succ, i64_w, i32_w]
          rfl
        refine Ydone_ (by kernel_rfl) ?_
        clear hHeld
        go_wp2
        have hds := HDS.out
        subst hds
        have hT := bel_stepB HT0.out HT9.out
        have hD9 := (HT9.out.block _ (blk_lt HD.out)).trans HD.out
        refine ⟨⟨k + 1, bn, wx.heap.size :: ms, ?_⟩, ?_⟩
        · (repeat apply Exists.intro)
          refine ⟨?_, rfl⟩
          refine ⟨by omega, by go_num, ⟨HH5.out.below hT⟩, ⟨bel_stepB HB5.out hT⟩, ⟨(HMW.out.below HT9.out).cons hD9 (by omega) (fun hr => ?_)⟩⟩
          have := (Array.getElem?_eq_some_iff.1 (HMX.out.at_ _ hr).2).1
          omega
        · simp [intOf]
          omega
      case stop => intro _ _ _ _ _ _ _ h; exact h.elim
    · obtain rfl : k = os.length := by omega
      have h6 := Aside0.mk ((HBk.out.block _ (blk_lt K6.out)).trans K6.out)
      go_wp2_with (go_at_call 11; (with_reducible refine (bk_alive _).mono ?_); rintro e wA ⟨rfl, hbA⟩; have HBA := Aside0.mk hbA; have q6 := (hbA.block _ (blk_lt h6.out)).trans h6.out; have e6 := blk_cell q6 (i := 0) rfl; have f6 := blk_free q6 0; have Q6 := Aside0.mk q6; clear hbA q6)
      obtain ⟨X, hX⟩ : ∃ X, X = wA.setCell ⟨w.heap.size, 0, none⟩ (.bool true) := ⟨_, rfl⟩
      rw [← hX]
      have hXB : X.heap[w.heap.size]? = some (.cells #[.bool true] 4 (0, 0)) := by rw [hX]; have := blk_set Q6.out 0 (.bool true); simpa using this
      have hlw := blk_lt K6.out
      have hAM := HMk.out.below HBA.out
      have hXF : Fr (fun b => b = w.heap.size) wA X := by rw [hX]; exact (Fr.refl (fun b => b = w.heap.size) wA).setCell (.inl rfl) _
      have hXM : Marks wb.heap.size ms X := hAM.fr hXF (fun r o hr ho => by rw [show r = w.heap.size from hr, Q6.out] at ho; cases ho; simp)
      have hTA := bel_stepB (bel_stepB HW0.out HBk.out) HBA.out
      have hXW : Below w.heap.size w X := hTA.trans (hXF.below _ hTA.size (fun b hb => by omega))
      have hlX : wb.heap.size ≤ X.heap.size := Nat.le_trans (Nat.le_trans HBk.out.size HBA.out.size) hXF.size
      clear hX
      show LeavesInM Fence.wide 15 _ _ _ _ dsx .returning X
      rw [HDS.out]
      refine leaves_marks ms _ hXM (fun w' g1 g2 => ?_) hlX
      exact ⟨_, results_c1 rfl _ _ w.heap.size _ rfl ((g1 _ hlw).trans hXB) Try.underlying4 rfl, rfl, hXW.trans (g2.mono (by omega))⟩
theorem blocksApart_walk (U : Int) (B : Option Addr) (d : Nat) (os : List OpB) (w : World) (hU : (Lit.int .i64 U).wf = true) (ho : OpBK.C w B os.length os) (hwo : ∀ o ∈ os, WfB o) :
    Calls Try.prog 3 #[.int .i64 U, .slice B os.length d] w fun e w' => e = .returned (.bool true) ∧ Below w.heap.size w w' := by
  by_cases hb : U < 0 ∨ 1024 < U
  · exact apart_bad1 U B d os w hb
  · obtain ⟨V, rfl⟩ : ∃ V : Nat, U = V := ⟨U.toNat, by omega⟩
    by_cases hl : 200 < os.length
    · exact apart_bad2 V B d os w (by omega) (ops_len ho) hl
    · exact apart_good V B d os w (by omega) ho hwo (by omega)
end Go.Proofs.Ytgendnoafemgpaa.Hand
