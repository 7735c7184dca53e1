/- What a claim needs of the walks and contracts, part 3. -/
import Derived.Test.YtbfogcckbhkciaaGreatHandG2
namespace Go.Proofs.YtbfogcckbhkciaaGreat.PHandRE
set_option linter.unusedVariables false
set_option linter.unusedSimpArgs false
open Go.RowKit Go.Proofs.YtbfogcckbhkciaaGreatW.PrintWords Go.Proofs.YtbfogcckbhkciaaGreatW.PrintLast Go.Proofs.YtbfogcckbhkciaaGreatW.PrintMore
attribute [local go_sem] max2_int min2_int max_two min_two max_three min_three max_four min_four   -- for this text's walks alone
set_option linter.unusedVariables false
set_option linter.unusedSimpArgs false
open Go.Proofs.YtbfogcckbhkciaaGreat.PHandRP Go.Proofs.YtbfogcckbhkciaaGreat.PHandRD
def ecdysisref03_Do.T13 : Bool × List (List Nat × List Nat) := (true, [([], []), ([], []), ([1], [1]), ([], []), ([2, 3], [2, 3]), ([], []), ([5], [5]), ([], []), ([6, 7], [6, 7]), ([8], [8]), ([0, 4, 9], [0, 4, 9]), ([10, 10, 0, 1, 2, 3, 4, 5, 6, 7, 8, 9, 10], [0, 10])])
def ecdysisref03_Do.B13 : List Nat := [0, 0, 2, 0, 14, 0, 32, 0, 224, 480, 1023, 2047]
theorem ecdysisref03_Do.tab13 : rtab .any (opsOf Tryz.f15 13) = ecdysisref03_Do.T13 := by kernel_rfl
theorem ecdysisref03_Do.bits13 : waitsOk ecdysisref03_Do.T13.2 ecdysisref03_Do.B13 = true := by kernel_rfl
def ecdysisref03_Do.T15 : Bool × List (List Nat × List Nat) := (true, [([], []), ([], []), ([1], [1]), ([], []), ([3], [3]), ([], []), ([5], [5]), ([], []), ([6, 7], [6, 7]), ([2, 4, 8], [2, 4, 8]), ([0, 2, 0], [0]), ([9, 10, 0, 1, 2, 3, 4, 5, 6, 7, 8, 9, 10], [9]), ([11, 0, 1, 2, 3, 4, 5, 6, 7, 8, 9, 10, 11], [])])
def ecdysisref03_Do.B15 : List Nat := [0, 0, 2, 0, 8, 0, 32, 0, 224, 510, 7, 2047, 4095]
theorem ecdysisref03_Do.tab15 : rtab .any (opsOf Tryz.f15 15) = ecdysisref03_Do.T15 := by kernel_rfl
theorem ecdysisref03_Do.bits15 : waitsOk ecdysisref03_Do.T15.2 ecdysisref03_Do.B15 = true := by kernel_rfl
set_option maxHeartbeats 8000000 in
set_option maxRecDepth 100000 in
theorem ecdysisref03_Do.calls (k : Nat) (P0_ : Nat → Prop) (A0 : Option Addr) (c0 : Nat) (l0 : List (S94)) (a1_0 : Int) (a1_1 : Int) (a1_2 : Int) (A1_3 : Option Addr) (c1_3 : Nat) (l1_3 : List Int) (A1_4 : Option Addr) (c1_4 : Nat) (l1_4 : List Int) (r1 : List (S94)) (r2 : ByteArray) (r3 : Int) (w : World) (hs0 : Kd.V k94 94 w w.heap.size (fun k_ => P0_ k_) (.slice A0 l0.length c0) l0) (hr1_3 : Kd.C (Kd.int .u8) w A1_3 l1_3.length l1_3) (hc1_3 : l1_3.length ≤ c1_3) (hr1_4 : Kd.C (Kd.int .i64) w A1_4 l1_4.length l1_4) (hc1_4 : l1_4.length ≤ c1_4) (h : ecdysisref03_Do.f k l0 a1_0 a1_1 a1_2 l1_3 l1_4 = some (r1, r2, r3)) :
  Calls Tryz.prog 15 #[.slice A0 l0.length c0, .agg #[.int .i64 a1_0, .int .i64 a1_1, .int .i64 a1_2, .slice A1_3 l1_3.length c1_3, .slice A1_4 l1_4.length c1_4]] w fun e w' => ∃ v0_ : Value, e = .returned (.tuple #[v0_, .string r2, .int .i64 r3]) ∧ Kd.V k94 94 w' w.heap.size (fun k_ => (P0_ k_ ∨ w.heap.size ≤ k_)) v0_ r1 ∧ Below w.heap.size w w' := by
 have hu54 := Tryz.underlying54
 have hu94 := Tryz.underlying94
 have HO0 := Aside0.mk (show Kd.V k94 94 w w.heap.size (fun k_ => (P0_ k_ ∨ w.heap.size ≤ k_)) (.slice A0 l0.length c0) l0 from Kd.V_mono hs0 (fun k_ hk => .inl hk))
 have HR1_3 := Aside0.mk hr1_3
 have HC1_3 := Aside0.mk hc1_3
 clear hr1_3 hc1_3
 have HR1_4 := Aside0.mk hr1_4
 have HC1_4 := Aside0.mk hc1_4
 clear hr1_4 hc1_4
 have HB := Aside0.mk (Below.refl w.heap.size w)
 have H : (if a1_0 = 0 then (ecdysisref03_Do.j0 k l0 (l1_3.length : Int) a1_0 a1_1 a1_2 l1_3 l1_4) else (ecdysisref03_Do.j0 k l0 a1_2 a1_0 a1_1 a1_2 l1_3 l1_4)) = some (r1, r2, r3) := h
 clear h
 have HC3 := Aside0.mk H
 clear H
 go_enter Tryz.func15, Tryz.ntmps15
 go_upto_if 17 with (first | ((with_reducible refine gate_dst (N := 3) rfl ?_); refine box_event ?hg (N := 3) ?hd (cs := #[.int .i64 a1_0, .int .i64 a1_1, .int .i64 a1_2, .slice A1_3 l1_3.length c1_3, .slice A1_4 l1_4.length c1_4]) (t := 54) ?hr ?_; (case hd => rfl); (case hg => rfl); (case hr => first | (go_simp; done) | (go_simp; rfl)); intro gb115 hg w4 hbox hb; have n0_ := Aside0.mk (Kd.V_below (Kd.V_elderB (by (with_reducible repeat (first | apply Kd.V_alloc | apply Kd.V_drewN | apply Kd.V_drew)); exact HO0.out) gb115 (Nat.le_of_eq hg.symm)) hb); have n1_ := Aside0.mk (below_step (by repeat (first | (with_reducible first | exact HB.out | apply below_alloc | apply pw_below_drewN | apply below_drew1) | exact HB.out)) hb); have n2_ := Aside0.mk (hbox); have n3_ := Aside0.mk ((by rw [hg]; exact (below_size (by repeat (first | (with_reducible first | exact HB.out | apply below_alloc | apply pw_below_drewN | apply below_drew1) | exact HB.out))) : w.heap.size ≤ gb115)); have n4_ := Aside0.mk ((by rw [hg]; exact (below_size (by repeat (first | (with_reducible first | exact HB.out | apply below_alloc | apply pw_below_drewN | apply below_drew1) | exact HB.out))) : w.heap.size ≤ gb115)); clear HO0; clear HB; have HO0 := n0_; have HB := n1_; have BK115 := n2_; have GW115 := n3_; have GE115 := n4_; clear n0_ n1_ n2_ n3_ n4_; clear hb hbox hg; have hcz5_0 : w4.cell? ⟨gb115, 0, none⟩ = some (.int .i64 a1_0) := (blk_cell BK115.out 0).trans rfl; have hcz5_1 : w4.cell? ⟨gb115, 1, none⟩ = some (.int .i64 a1_1) := (blk_cell BK115.out 1).trans rfl; have hcz5_2 : w4.cell? ⟨gb115, 2, none⟩ = some (.int .i64 a1_2) := (blk_cell BK115.out 2).trans rfl; have hcz5_3 : w4.cell? ⟨gb115, 3, none⟩ = some (.slice A1_3 l1_3.length c1_3) := (blk_cell BK115.out 3).trans rfl; have hcz5_4 : w4.cell? ⟨gb115, 4, none⟩ = some (.slice A1_4 l1_4.length c1_4) := (blk_cell BK115.out 4).trans rfl; have hfz5_0 := blk_frozen BK115.out 0; have hfz5_1 := blk_frozen BK115.out 1; have hfz5_2 := blk_frozen BK115.out 2; have hfz5_3 := blk_frozen BK115.out 3; have hfz5_4 := blk_frozen BK115.out 4))
 (try simp only [Act.put, List.setIfInBounds_toArray, List.set_cons_zero, List.set_cons_succ])
 go_cut [7] (fun v7 wc => ∃ (kq : Nat) (x7_2 : Int), v7 = .int .i64 x7_2 ∧ Aside0 (ecdysisref03_Do.j0 kq l0 x7_2 a1_0 a1_1 a1_2 l1_3 l1_4 = some (r1, r2, r3)) ∧ Aside0 (kq ≤ k) ∧ Aside0 (Kd.V k94 94 wc w.heap.size (fun k_ => (P0_ k_ ∨ w.heap.size ≤ k_) ∧ k_ ≠ gb115) (.slice A0 l0.length c0) l0) ∧ Aside0 (wc.heap[gb115]? = some (.cells #[.int .i64 a1_0, .int .i64 a1_1, .int .i64 a1_2, (.slice A1_3 l1_3.length c1_3), (.slice A1_4 l1_4.length c1_4)] 54 (0, 0))) ∧ Aside0 (Below w.heap.size w wc))
 case first =>
  have H := HC3.out
  clear HC3
  by_cases c6 : a1_0 = 0
  ·rw [if_pos c6] at H
   have c6b0 : (a1_0 == 0) = true := beq_iff_eq.mpr c6
   have c6b1 : (a1_0 != 0) = false := bne_eq_false_iff_eq.mpr c6
   clear c6
   (first | rw [c6b0] | (simp only [i64_w, i32_w]; rw [c6b0]) | skip)
   have H' := Aside0.mk H
   clear H
   have hcz7_0 : w4.cell? ⟨gb115, 0, none⟩ = some (.int .i64 a1_0) := (blk_cell BK115.out 0).trans rfl
   have hcz7_1 : w4.cell? ⟨gb115, 1, none⟩ = some (.int .i64 a1_1) := (blk_cell BK115.out 1).trans rfl
   have hcz7_2 : w4.cell? ⟨gb115, 2, none⟩ = some (.int .i64 a1_2) := (blk_cell BK115.out 2).trans rfl
   have hcz7_3 : w4.cell? ⟨gb115, 3, none⟩ = some (.slice A1_3 l1_3.length c1_3) := (blk_cell BK115.out 3).trans rfl
   have hcz7_4 : w4.cell? ⟨gb115, 4, none⟩ = some (.slice A1_4 l1_4.length c1_4) := (blk_cell BK115.out 4).trans rfl
   have hfz7_0 := blk_frozen BK115.out 0
   have hfz7_1 := blk_frozen BK115.out 1
   have hfz7_2 := blk_frozen BK115.out 2
   have hfz7_3 := blk_frozen BK115.out 3
   have hfz7_4 := blk_frozen BK115.out 4
   go_wp2
   go_meet
   case rel => exact ⟨_, ((l1_3.length : Int)), (by first | rfl | (simp; done) | (simp [*]; done)), H', ⟨by first | omega | exact Nat.le_refl _⟩, ⟨by (with_reducible repeat (first | apply Kd.V_alloc | apply Kd.V_drewN | apply Kd.V_drew)); exact HO0.out⟩, ⟨by (with_reducible repeat (first | refine blk_drewN ?_ _ | refine blk_drew ?_ | refine blk_alloc ?_ _)); exact BK115.out⟩, ⟨by repeat (first | (with_reducible first | exact HB.out | apply below_alloc | apply pw_below_drewN | apply below_drew1 | refine below_set ?_ GE115.out) | exact HB.out)⟩⟩
  ·rw [if_neg c6] at H
   have c6b0 : (a1_0 == 0) = false := beq_eq_false_iff_ne.mpr c6
   have c6b1 : (a1_0 != 0) = true := bne_iff_ne.mpr c6
   (first | rw [c6b0] | (simp only [i64_w, i32_w]; rw [c6b0]) | skip)
   have H' := Aside0.mk H
   clear H
   go_wp2
   go_meet
   case rel => exact ⟨_, (a1_2), (by first | rfl | (simp; done) | (simp [*]; done)), H', ⟨by first | omega | exact Nat.le_refl _⟩, ⟨by (with_reducible repeat (first | apply Kd.V_alloc | apply Kd.V_drewN | apply Kd.V_drew)); exact HO0.out⟩, ⟨by (with_reducible repeat (first | refine blk_drewN ?_ _ | refine blk_drew ?_ | refine blk_alloc ?_ _)); exact BK115.out⟩, ⟨by repeat (first | (with_reducible first | exact HB.out | apply below_alloc | apply pw_below_drewN | apply below_drew1 | refine below_set ?_ GE115.out) | exact HB.out)⟩⟩
 case rest =>
  clear HC3
  try clear c1
  try clear p2
  try clear c6
  try clear c6b0
  try clear c6b1
  try clear hcz5_0
  try clear hcz5_1
  try clear hcz5_2
  try clear hcz5_3
  try clear hcz5_4
  try clear hcz7_0
  try clear hcz7_1
  try clear hcz7_2
  try clear hcz7_3
  try clear hcz7_4
  try clear hfz5_0
  try clear hfz5_1
  try clear hfz5_2
  try clear hfz5_3
  try clear hfz5_4
  try clear hfz7_0
  try clear hfz7_1
  try clear hfz7_2
  try clear hfz7_3
  try clear hfz7_4
  obtain ⟨kq, x7_2, rfl, HA, HJ2, HO_0, BK115, HB⟩ := hcut
  cases kq with
  | zero => exact absurd HA.out (by simp [ecdysisref03_Do.j0])
  | succ kj2 =>
   have H := HA.out
   clear HA
   simp only [ecdysisref03_Do.j0] at H
   have HC8 := Aside0.mk H
   clear H
   go_upto_region 4 with (fail)
   go_cut [28] (fun v28 wc => ∃ (kq : Nat) (x28_7 : Bool), v28 = .bool x28_7 ∧ Aside0 (ecdysisref03_Do.j1 kq l0 x7_2 x28_7 a1_0 a1_1 a1_2 l1_3 l1_4 = some (r1, r2, r3)) ∧ Aside0 (kq ≤ kj2) ∧ Aside0 (Kd.V k94 94 wc w.heap.size (fun k_ => (P0_ k_ ∨ w.heap.size ≤ k_) ∧ k_ ≠ gb115) (.slice A0 l0.length c0) l0) ∧ Aside0 (wc.heap[gb115]? = some (.cells #[.int .i64 a1_0, .int .i64 a1_1, .int .i64 a1_2, (.slice A1_3 l1_3.length c1_3), (.slice A1_4 l1_4.length c1_4)] 54 (0, 0))) ∧ Aside0 (Below w.heap.size w wc))
   case first =>
    have H := HC8.out
    clear HC8
    by_cases c9 : a1_0 ≥ 0
    ·rw [if_pos c9] at H
     have c9b0 : decide (0 ≤ a1_0) = true := decide_eq_true c9
     clear c9
     (first | rw [c9b0] | (simp only [i64_w, i32_w]; rw [c9b0]) | skip)
     have H' := Aside0.mk H
     clear H
     have hcz10_0 : wc.cell? ⟨gb115, 0, none⟩ = some (.int .i64 a1_0) := (blk_cell BK115.out 0).trans rfl
     have hcz10_1 : wc.cell? ⟨gb115, 1, none⟩ = some (.int .i64 a1_1) := (blk_cell BK115.out 1).trans rfl
     have hcz10_2 : wc.cell? ⟨gb115, 2, none⟩ = some (.int .i64 a1_2) := (blk_cell BK115.out 2).trans rfl
     have hcz10_3 : wc.cell? ⟨gb115, 3, none⟩ = some (.slice A1_3 l1_3.length c1_3) := (blk_cell BK115.out 3).trans rfl
     have hcz10_4 : wc.cell? ⟨gb115, 4, none⟩ = some (.slice A1_4 l1_4.length c1_4) := (blk_cell BK115.out 4).trans rfl
     have hfz10_0 := blk_frozen BK115.out 0
     have hfz10_1 := blk_frozen BK115.out 1
     have hfz10_2 := blk_frozen BK115.out 2
     have hfz10_3 := blk_frozen BK115.out 3
     have hfz10_4 := blk_frozen BK115.out 4
     go_wp2
     go_meet
     case rel => exact ⟨_, (decide (a1_0 ≤ 2)), (by first | rfl | (simp; done) | (simp [*]; done)), H', ⟨by have := HJ2.out; first | omega | exact Nat.le_refl _⟩, ⟨by (with_reducible repeat (first | apply Kd.V_alloc | apply Kd.V_drewN | apply Kd.V_drew)); exact HO_0.out⟩, ⟨by (with_reducible repeat (first | refine blk_drewN ?_ _ | refine blk_drew ?_ | refine blk_alloc ?_ _)); exact BK115.out⟩, ⟨by repeat (first | (with_reducible first | exact HB.out | apply below_alloc | apply pw_below_drewN | apply below_drew1 | refine below_set ?_ GE115.out) | exact HB.out)⟩⟩
    ·rw [if_neg c9] at H
     have c9b0 : decide (0 ≤ a1_0) = false := decide_eq_false c9
     clear c9
     (first | rw [c9b0] | (simp only [i64_w, i32_w]; rw [c9b0]) | skip)
     have H' := Aside0.mk H
     clear H
     have hcz11_0 : wc.cell? ⟨gb115, 0, none⟩ = some (.int .i64 a1_0) := (blk_cell BK115.out 0).trans rfl
     have hcz11_1 : wc.cell? ⟨gb115, 1, none⟩ = some (.int .i64 a1_1) := (blk_cell BK115.out 1).trans rfl
     have hcz11_2 : wc.cell? ⟨gb115, 2, none⟩ = some (.int .i64 a1_2) := (blk_cell BK115.out 2).trans rfl
     have hcz11_3 : wc.cell? ⟨gb115, 3, none⟩ = some (.slice A1_3 l1_3.length c1_3) := (blk_cell BK115.out 3).trans rfl
     have hcz11_4 : wc.cell? ⟨gb115, 4, none⟩ = some (.slice A1_4 l1_4.length c1_4) := (blk_cell BK115.out 4).trans rfl
     have hfz11_0 := blk_frozen BK115.out 0
     have hfz11_1 := blk_frozen BK115.out 1
     have hfz11_2 := blk_frozen BK115.out 2
     have hfz11_3 := blk_frozen BK115.out 3
     have hfz11_4 := blk_frozen BK115.out 4
     go_wp2
     go_meet
     case rel => exact ⟨_, (false), (by first | rfl | (simp; done) | (simp [*]; done)), H', ⟨by have := HJ2.out; first | omega | exact Nat.le_refl _⟩, ⟨by (with_reducible repeat (first | apply Kd.V_alloc | apply Kd.V_drewN | apply Kd.V_drew)); exact HO_0.out⟩, ⟨by (with_reducible repeat (first | refine blk_drewN ?_ _ | refine blk_drew ?_ | refine blk_alloc ?_ _)); exact BK115.out⟩, ⟨by repeat (first | (with_reducible first | exact HB.out | apply below_alloc | apply pw_below_drewN | apply below_drew1 | refine below_set ?_ GE115.out) | exact HB.out)⟩⟩
   case rest =>
    clear HC8
    try clear c1
    try clear p2
    try clear c6
    try clear c6b0
    try clear c6b1
    try clear c9
    try clear c9b0
    try clear hcz10_0
    try clear hcz10_1
    try clear hcz10_2
    try clear hcz10_3
    try clear hcz10_4
    try clear hcz11_0
    try clear hcz11_1
    try clear hcz11_2
    try clear hcz11_3
    try clear hcz11_4
    try clear hcz5_0
    try clear hcz5_1
    try clear hcz5_2
    try clear hcz5_3
    try clear hcz5_4
    try clear hcz7_0
    try clear hcz7_1
    try clear hcz7_2
    try clear hcz7_3
    try clear hcz7_4
    try clear hfz10_0
    try clear hfz10_1
    try clear hfz10_2
    try clear hfz10_3
    try clear hfz10_4
    try clear hfz11_0
    try clear hfz11_1
    try clear hfz11_2
    try clear hfz11_3
    try clear hfz11_4
    try clear hfz5_0
    try clear hfz5_1
    try clear hfz5_2
    try clear hfz5_3
    try clear hfz5_4
    try clear hfz7_0
    try clear hfz7_1
    try clear hfz7_2
    try clear hfz7_3
    try clear hfz7_4
    try clear p2
    obtain ⟨kq, x28_7, rfl, HA, HJ7, HO_0, BK115, HB⟩ := hcut
    cases kq with
    | zero => exact absurd HA.out (by simp [ecdysisref03_Do.j1])
    | succ kj7 =>
     have H := HA.out
     clear HA
     simp only [ecdysisref03_Do.j1] at H
     have HC12 := Aside0.mk H
     clear H
     go_upto_if 28 with (fail)
     go_cut [] (fun wc => ∃ (kq : Nat), Aside0 (ecdysisref03_Do.j2 kq l0 x7_2 a1_0 a1_1 a1_2 l1_3 l1_4 = some (r1, r2, r3)) ∧ Aside0 (kq ≤ kj7) ∧ Aside0 (Kd.V k94 94 wc w.heap.size (fun k_ => (P0_ k_ ∨ w.heap.size ≤ k_) ∧ k_ ≠ gb115) (.slice A0 l0.length c0) l0) ∧ Aside0 (wc.heap[gb115]? = some (.cells #[.int .i64 a1_0, .int .i64 a1_1, .int .i64 a1_2, (.slice A1_3 l1_3.length c1_3), (.slice A1_4 l1_4.length c1_4)] 54 (0, 0))) ∧ Aside0 (Below w.heap.size w wc))
     case first =>
      have H := HC12.out
      clear HC12
      by_cases c13 : x28_7 = true
      ·subst c13
       have H1 : ((ecdysisref03_Inside.f l0 a1_1 x7_2).bind fun t116 => (if t116 = 0 then (ecdysisref03_Do.j2 kj7 l0 x7_2 a1_0 a1_1 a1_2 l1_3 l1_4) else (some (l0, (⟨#[]⟩ : ByteArray), t116)))) = some (r1, r2, r3) := by rw [if_pos rfl] at H; exact H
       clear H
       have H := H1
       clear H1
       replace H := Option.bind_eq_some_iff.mp H
       obtain ⟨t116, A140, H⟩ := H
       replace H : (if t116 = 0 then (ecdysisref03_Do.j2 kj7 l0 x7_2 a1_0 a1_1 a1_2 l1_3 l1_4) else (some (l0, (⟨#[]⟩ : ByteArray), t116))) = some (r1, r2, r3) := H
       have A14 := Aside0.mk A140
       clear A140
       by_cases c15 : t116 = 0
       ·rw [if_pos c15] at H
        have c15b0 : (t116 == 0) = true := beq_iff_eq.mpr c15
        have c15b1 : (t116 != 0) = false := bne_eq_false_iff_eq.mpr c15
        clear c15
        (first | rw [c15b0] | (simp only [i64_w, i32_w]; rw [c15b0]) | skip)
        have H' := Aside0.mk H
        clear H
        have hcz16_0 : wc.cell? ⟨gb115, 0, none⟩ = some (.int .i64 a1_0) := (blk_cell BK115.out 0).trans rfl
        have hcz16_1 : wc.cell? ⟨gb115, 1, none⟩ = some (.int .i64 a1_1) := (blk_cell BK115.out 1).trans rfl
        have hcz16_2 : wc.cell? ⟨gb115, 2, none⟩ = some (.int .i64 a1_2) := (blk_cell BK115.out 2).trans rfl
        have hcz16_3 : wc.cell? ⟨gb115, 3, none⟩ = some (.slice A1_3 l1_3.length c1_3) := (blk_cell BK115.out 3).trans rfl
        have hcz16_4 : wc.cell? ⟨gb115, 4, none⟩ = some (.slice A1_4 l1_4.length c1_4) := (blk_cell BK115.out 4).trans rfl
        have hfz16_0 := blk_frozen BK115.out 0
        have hfz16_1 := blk_frozen BK115.out 1
        have hfz16_2 := blk_frozen BK115.out 2
        have hfz16_3 := blk_frozen BK115.out 3
        have hfz16_4 := blk_frozen BK115.out 4
        go_wp2_with (first | ((with_reducible refine gate_callee (f := 38) rfl ?_); refine goesL_ (some 33) rfl rfl Tryz.func38 (by kernel_rfl) rfl #[.slice A0 l0.length c0, .int .i64 a1_1, .int .i64 x7_2] rfl (by (try simp only [List.map_toArray, List.map_cons, List.map_nil]); first | done | rfl | (simp only [List.length_drop, List.length_take]; rfl)) ?_; (with_reducible refine (ecdysisref03_Inside.calls _ _ l0 a1_1 x7_2 t116 _ ?side1 ?side2 A14.out).mono ?_); (case side1 => repeat (first | exact (Kd.V_reads' HO_0.out).2.2 | (with_reducible refine Kd.C_alloc ?_ _) | (with_reducible refine Kd.C_drewN ?_ _) | (with_reducible refine Kd.C_drew ?_))); (case side2 => exact (Kd.V_reads' HO_0.out).2.1); rintro e w' ⟨rfl, ⟨nd, rfl⟩⟩; refine ⟨_, rfl, ?_⟩))
        go_meet
        case rel => exact ⟨_, H', ⟨by have := HJ2.out; have := HJ7.out; first | omega | exact Nat.le_refl _⟩, ⟨by (with_reducible repeat (first | apply Kd.V_alloc | apply Kd.V_drewN | apply Kd.V_drew)); exact HO_0.out⟩, ⟨by (with_reducible repeat (first | refine blk_drewN ?_ _ | refine blk_drew ?_ | refine blk_alloc ?_ _)); exact BK115.out⟩, ⟨by repeat (first | (with_reducible first | exact HB.out | apply below_alloc | apply pw_below_drewN | apply below_drew1 | refine below_set ?_ GE115.out) | exact HB.out)⟩⟩
       ·rw [if_neg c15] at H
        have c15b0 : (t116 == 0) = false := beq_eq_false_iff_ne.mpr c15
        have c15b1 : (t116 != 0) = true := bne_iff_ne.mpr c15
        (first | rw [c15b0] | (simp only [i64_w, i32_w]; rw [c15b0]) | skip)
        simp only [Option.some.injEq, Prod.mk.injEq] at H
        obtain ⟨rfl, rfl, rfl⟩ := H
        have hcz17_0 : wc.cell? ⟨gb115, 0, none⟩ = some (.int .i64 a1_0) := (blk_cell BK115.out 0).trans rfl
        have hcz17_1 : wc.cell? ⟨gb115, 1, none⟩ = some (.int .i64 a1_1) := (blk_cell BK115.out 1).trans rfl
        have hcz17_2 : wc.cell? ⟨gb115, 2, none⟩ = some (.int .i64 a1_2) := (blk_cell BK115.out 2).trans rfl
        have hcz17_3 : wc.cell? ⟨gb115, 3, none⟩ = some (.slice A1_3 l1_3.length c1_3) := (blk_cell BK115.out 3).trans rfl
        have hcz17_4 : wc.cell? ⟨gb115, 4, none⟩ = some (.slice A1_4 l1_4.length c1_4) := (blk_cell BK115.out 4).trans rfl
        have hfz17_0 := blk_frozen BK115.out 0
        have hfz17_1 := blk_frozen BK115.out 1
        have hfz17_2 := blk_frozen BK115.out 2
        have hfz17_3 := blk_frozen BK115.out 3
        have hfz17_4 := blk_frozen BK115.out 4
        go_wp2_with (first | ((with_reducible refine gate_callee (f := 38) rfl ?_); refine goesL_ (some 33) rfl rfl Tryz.func38 (by kernel_rfl) rfl #[.slice A0 l0.length c0, .int .i64 a1_1, .int .i64 x7_2] rfl (by (try simp only [List.map_toArray, List.map_cons, List.map_nil]); first | done | rfl | (simp only [List.length_drop, List.length_take]; rfl)) ?_; (with_reducible refine (ecdysisref03_Inside.calls _ _ l0 a1_1 x7_2 t116 _ ?side1 ?side2 A14.out).mono ?_); (case side1 => repeat (first | exact (Kd.V_reads' HO_0.out).2.2 | (with_reducible refine Kd.C_alloc ?_ _) | (with_reducible refine Kd.C_drewN ?_ _) | (with_reducible refine Kd.C_drew ?_))); (case side2 => exact (Kd.V_reads' HO_0.out).2.1); rintro e w' ⟨rfl, ⟨nd, rfl⟩⟩; refine ⟨_, rfl, ?_⟩))
        go_ret3
        exact ⟨_, by first | rfl | (simp [errW_none, errW_some] <;> rfl) | (simp [*, errW_none, errW_some] <;> rfl), by (with_reducible repeat (first | apply Kd.V_alloc | apply Kd.V_drewN | apply Kd.V_drew)); exact Kd.V_mono HO_0.out (fun _ hk => hk.1), by repeat (first | (with_reducible first | exact HB.out | apply below_alloc | apply pw_below_drewN | apply below_drew1 | refine below_set ?_ GE115.out) | exact HB.out)⟩
      ·replace c13 := Bool.eq_false_iff.mpr c13
       subst c13
       have H1 : (ecdysisref03_Do.j2 kj7 l0 x7_2 a1_0 a1_1 a1_2 l1_3 l1_4) = some (r1, r2, r3) := by rw [if_neg (show ¬ (false = true) by decide)] at H; exact H
       clear H
       have H := H1
       clear H1
       have H' := Aside0.mk H
       clear H
       go_wp2
       go_meet
       case rel => exact ⟨_, H', ⟨by have := HJ2.out; have := HJ7.out; first | omega | exact Nat.le_refl _⟩, ⟨by (with_reducible repeat (first | apply Kd.V_alloc | apply Kd.V_drewN | apply Kd.V_drew)); exact HO_0.out⟩, ⟨by (with_reducible repeat (first | refine blk_drewN ?_ _ | refine blk_drew ?_ | refine blk_alloc ?_ _)); exact BK115.out⟩, ⟨by repeat (first | (with_reducible first | exact HB.out | apply below_alloc | apply pw_below_drewN | apply below_drew1 | refine below_set ?_ GE115.out) | exact HB.out)⟩⟩
     case rest =>
      clear HC12
      try clear c1
      try clear p2
      try clear c3
      try clear c6
      try clear c6b0
      try clear c6b1
      try clear c9
      try clear c9b0
      try clear c13
      try clear c15
      try clear c15b0
      try clear c15b1
      try clear hcz10_0
      try clear hcz10_1
      try clear hcz10_2
      try clear hcz10_3
      try clear hcz10_4
      try clear hcz11_0
      try clear hcz11_1
      try clear hcz11_2
      try clear hcz11_3
      try clear hcz11_4
      try clear hcz16_0
      try clear hcz16_1
      try clear hcz16_2
      try clear hcz16_3
      try clear hcz16_4
      try clear hcz17_0
      try clear hcz17_1
      try clear hcz17_2
      try clear hcz17_3
      try clear hcz17_4
      try clear hcz5_0
      try clear hcz5_1
      try clear hcz5_2
      try clear hcz5_3
      try clear hcz5_4
      try clear hcz7_0
      try clear hcz7_1
      try clear hcz7_2
      try clear hcz7_3
      try clear hcz7_4
      try clear hfz10_0
      try clear hfz10_1
      try clear hfz10_2
      try clear hfz10_3
      try clear hfz10_4
      try clear hfz11_0
      try clear hfz11_1
      try clear hfz11_2
      try clear hfz11_3
      try clear hfz11_4
      try clear hfz16_0
      try clear hfz16_1
      try clear hfz16_2
      try clear hfz16_3
      try clear hfz16_4
      try clear hfz17_0
      try clear hfz17_1
      try clear hfz17_2
      try clear hfz17_3
      try clear hfz17_4
      try clear hfz5_0
      try clear hfz5_1
      try clear hfz5_2
      try clear hfz5_3
      try clear hfz5_4
      try clear hfz7_0
      try clear hfz7_1
      try clear hfz7_2
      try clear hfz7_3
      try clear hfz7_4
      try clear p2
      obtain ⟨kq, HA, HJ11, HO_0, BK115, HB⟩ := hcut
      cases kq with
      | zero => exact absurd HA.out (by simp [ecdysisref03_Do.j2])
      | succ kj11 =>
       have H := HA.out
       clear HA
       simp only [ecdysisref03_Do.j2] at H
       have HC18 := Aside0.mk H
       clear H
       have hcz19_0 : wc.cell? ⟨gb115, 0, none⟩ = some (.int .i64 a1_0) := (blk_cell BK115.out 0).trans rfl
       have hcz19_1 : wc.cell? ⟨gb115, 1, none⟩ = some (.int .i64 a1_1) := (blk_cell BK115.out 1).trans rfl
       have hcz19_2 : wc.cell? ⟨gb115, 2, none⟩ = some (.int .i64 a1_2) := (blk_cell BK115.out 2).trans rfl
       have hcz19_3 : wc.cell? ⟨gb115, 3, none⟩ = some (.slice A1_3 l1_3.length c1_3) := (blk_cell BK115.out 3).trans rfl
       have hcz19_4 : wc.cell? ⟨gb115, 4, none⟩ = some (.slice A1_4 l1_4.length c1_4) := (blk_cell BK115.out 4).trans rfl
       have hfz19_0 := blk_frozen BK115.out 0
       have hfz19_1 := blk_frozen BK115.out 1
       have hfz19_2 := blk_frozen BK115.out 2
       have hfz19_3 := blk_frozen BK115.out 3
       have hfz19_4 := blk_frozen BK115.out 4
       go_upto_block 0 with (fail)
       go_cut [0] (fun v0 wc => ∃ (kq : Nat) (x0_17 : List (S94)), Aside0 (ecdysisref03_Do.j4 kq x0_17 x7_2 a1_0 a1_1 a1_2 l1_3 l1_4 = some (r1, r2, r3)) ∧ Aside0 (kq ≤ kj11) ∧ Aside0 (Kd.V k94 94 wc w.heap.size (fun k_ => (P0_ k_ ∨ w.heap.size ≤ k_) ∧ k_ ≠ gb115) v0 x0_17) ∧ Aside0 (wc.heap[gb115]? = some (.cells #[.int .i64 a1_0, .int .i64 a1_1, .int .i64 a1_2, (.slice A1_3 l1_3.length c1_3), (.slice A1_4 l1_4.length c1_4)] 54 (0, 0))) ∧ Aside0 (Below w.heap.size w wc))
       case first =>
        have H := HC18.out
        clear HC18
        by_cases c20 : a1_0 = 0
        ·rw [if_pos c20] at H
         have c20b0 : (a1_0 == 0) = true := beq_iff_eq.mpr c20
         have c20b1 : (a1_0 != 0) = false := bne_eq_false_iff_eq.mpr c20
         clear c20
         (first | rw [c20b0] | (simp only [i64_w, i32_w]; rw [c20b0]) | skip)
         have H' := Aside0.mk H
         clear H
         go_wp2
         go_loopg [0, 9] kj11 (fun kq v0 v9 w' => ∃ (x0_4 : List (S94)) (x9_4 : Int), v9 = .int .i64 x9_4 ∧ Aside0 (ecdysisref03_Do.l0 kq x0_4 x7_2 x9_4 a1_0 a1_1 a1_2 l1_3 l1_4 = some (r1, r2, r3)) ∧ Aside0 (kq ≤ kj11) ∧ Aside0 (Kd.V k94 94 w' w.heap.size (fun k_ => (P0_ k_ ∨ w.heap.size ≤ k_) ∧ k_ ≠ gb115) v0 x0_4) ∧ Aside0 (w'.heap[gb115]? = some (.cells #[.int .i64 a1_0, .int .i64 a1_1, .int .i64 a1_2, (.slice A1_3 l1_3.length c1_3), (.slice A1_4 l1_4.length c1_4)] 54 (0, 0))) ∧ Aside0 (Below w.heap.size w w'))
         case atStart => exact ⟨(l0), (0), (by first | rfl | (simp; done) | (simp [*]; done)), H', ⟨Nat.le_refl _⟩, ⟨by (with_reducible repeat (first | apply Kd.V_alloc | apply Kd.V_drewN | apply Kd.V_drew)); exact HO_0.out⟩, ⟨by (with_reducible repeat (first | refine blk_drewN ?_ _ | refine blk_drew ?_ | refine blk_alloc ?_ _)); exact BK115.out⟩, ⟨by repeat (first | (with_reducible first | exact HB.out | apply below_alloc | apply pw_below_drewN | apply below_drew1 | refine below_set ?_ GE115.out) | exact HB.out)⟩⟩
         case round =>
          clear H'
          try clear c1
          try clear c2
          try clear p2
          try clear c3
          try clear c6
          try clear c6b0
          try clear c6b1
          try clear c9
          try clear c9b0
          try clear c13
          try clear c15
          try clear c15b0
          try clear c15b1
          try clear c20
          try clear c20b0
          try clear c20b1
          try clear hcz10_0
          try clear hcz10_1
          try clear hcz10_2
          try clear hcz10_3
          try clear hcz10_4
          try clear hcz11_0
          try clear hcz11_1
          try clear hcz11_2
          try clear hcz11_3
          try clear hcz11_4
          try clear hcz16_0
          try clear hcz16_1
          try clear hcz16_2
          try clear hcz16_3
          try clear hcz16_4
          try clear hcz17_0
          try clear hcz17_1
          try clear hcz17_2
          try clear hcz17_3
          try clear hcz17_4
          try clear hcz19_0
          try clear hcz19_1
          try clear hcz19_2
          try clear hcz19_3
          try clear hcz19_4
          try clear hcz5_0
          try clear hcz5_1
          try clear hcz5_2
          try clear hcz5_3
          try clear hcz5_4
          try clear hcz7_0
          try clear hcz7_1
          try clear hcz7_2
          try clear hcz7_3
          try clear hcz7_4
          try clear hfz10_0
          try clear hfz10_1
          try clear hfz10_2
          try clear hfz10_3
          try clear hfz10_4
          try clear hfz11_0
          try clear hfz11_1
          try clear hfz11_2
          try clear hfz11_3
          try clear hfz11_4
          try clear hfz16_0
          try clear hfz16_1
          try clear hfz16_2
          try clear hfz16_3
          try clear hfz16_4
          try clear hfz17_0
          try clear hfz17_1
          try clear hfz17_2
          try clear hfz17_3
          try clear hfz17_4
          try clear hfz19_0
          try clear hfz19_1
          try clear hfz19_2
          try clear hfz19_3
          try clear hfz19_4
          try clear hfz5_0
          try clear hfz5_1
          try clear hfz5_2
          try clear hfz5_3
          try clear hfz5_4
          try clear hfz7_0
          try clear hfz7_1
          try clear hfz7_2
          try clear hfz7_3
          try clear hfz7_4
          try clear p2
          obtain ⟨x0_4, x9_4, rfl, HA, HK4, HO_0, BK115, HB⟩ := hrel
          cases gk with
          | zero => exact absurd HA.out (by simp [ecdysisref03_Do.l0])
          | succ k4 =>
           have H := HA.out
           clear HA
           simp only [ecdysisref03_Do.l0] at H
           by_cases c21 : x9_4 < x7_2
           ·rw [if_pos c21] at H
            have c21b0 : decide (x9_4 < x7_2) = true := decide_eq_true c21
            clear c21
            by_cases c22 : 0 ≤ x9_4
            ·rw [if_pos c22] at H
             have c22b0 : decide (0 ≤ x9_4) = true := decide_eq_true c22
             clear c22
             by_cases c23 : x9_4 < (l1_3.length : Int)
             ·rw [if_pos c23] at H
              have c23b0 : decide (x9_4 < (l1_3.length : Int)) = true := decide_eq_true c23
              clear c23
              replace H := Option.bind_eq_some_iff.mp H
              obtain ⟨t118, A240, H⟩ := H
              replace H : (ecdysisref03_Do.l0 k4 t118 x7_2 (wrap64 (x9_4 + 1)) a1_0 a1_1 a1_2 l1_3 l1_4) = some (r1, r2, r3) := H
              have A24 := Aside0.mk A240
              clear A240
              have H' := Aside0.mk H
              clear H
              try go_wp2
              have n0_ := Aside0.mk (Kd.V_drew HO_0.out)
              have n1_ := Aside0.mk (blk_drew BK115.out)
              have n2_ := Aside0.mk (below_drew1 HB.out)
              clear HO_0
              clear BK115
              clear HB
              have HO_0 := n0_
              have BK115 := n1_
              have HB := n2_
              clear n0_ n1_ n2_
              have p117 : 0 ≤ (x9_4 : Int) := of_decide_eq_true (by first | (with_reducible assumption) | assumption)
              have q117 : x9_4 < (l1_3.length : Int) := of_decide_eq_true (by first | (with_reducible assumption) | assumption)
              obtain ⟨ad117, e117, hx117_0⟩ := Kd.at_int HR1_3.out x9_4 p117 q117
              have hw117_0 := hx117_0
              cases e117
              replace hx117_0 := (HB.out.cell (World.block_lt_of_cell? w _ hx117_0)).trans hx117_0
              replace p117 := eq_true p117
              replace q117 := eq_true q117
              obtain ⟨Ao26, co26, eo26⟩ := Kd.V_slice HO_0.out
              (first | subst eo26 | (injection eo26 with f1_ f2_ f3_; have f4_ := f1_.symm; have f5_ := f3_.symm; clear f1_ f2_ f3_; subst f4_; subst f5_))
              refine start_ (n := 12) (S := fun w' => w'.cell? ⟨gb115, 0, none⟩ = some (.int .i64 a1_0) ∧ w'.cell? ⟨gb115, 1, none⟩ = some (.int .i64 a1_1) ∧ w'.cell? ⟨gb115, 2, none⟩ = some (.int .i64 a1_2) ∧ w'.cell? ⟨gb115, 3, none⟩ = some (.slice (some ad117) l1_3.length c1_3) ∧ w'.cell? ⟨gb115, 4, none⟩ = some (.slice A1_4 l1_4.length c1_4) ∧ w'.cell? (ad117.add (x9_4).toNat) = some (.int .u8 (rd l1_3 x9_4))) (ds := []) #[false, false, false, false, false, false, false, false, false, false, false, false] (by kernel_rfl) rfl rfl ⟨(blk_cell BK115.out 0).trans rfl, (blk_cell BK115.out 1).trans rfl, (blk_cell BK115.out 2).trans rfl, (blk_cell BK115.out 3).trans rfl, (blk_cell BK115.out 4).trans rfl, ((HB.out.cell (World.block_lt_of_cell? w _ hw117_0)).trans hw117_0)⟩ (fun hHeld => ?_); refine with_tabW ecdysisref03_Do.tab13 ecdysisref03_Do.bits13 (fun HT_ HW_ => ?_)
              generalize wr.drew = w25 at HO_0 BK115 HB hx117_0 hHeld ⊢
              refine pure_ (i := 0) (N := some 47) (v := ?_) (a' := ?_) #[true, false, false, false, false, false, false, false, false, false, false, false] rfl rfl (any_of HT_.out (by kernel_rfl)) (fun _ _ _ h => h) (Or.inl ⟨by rfl, ?_⟩) ?_ ?_
              rotate_left
              ·intro w'
               go_simp
               with_reducible rfl
              rotate_left
              ·simp only [Act.put, List.setIfInBounds_toArray, List.set_cons_zero, List.set_cons_succ, i64_w, i32_w]
               rfl
              refine pure_ (i := 1) (N := some 48) (v := ?_) (a' := ?_) #[true, true, false, false, false, false, false, false, false, false, false, false] rfl rfl (any_of HT_.out (by kernel_rfl)) (fun _ _ _ h => h) (Or.inl ⟨by rfl, ?_⟩) ?_ ?_
              rotate_left
              ·intro w'
               go_simp
               with_reducible rfl
              rotate_left
              ·simp only [Act.put, List.setIfInBounds_toArray, List.set_cons_zero, List.set_cons_succ, i64_w, i32_w]
               rfl
              refine pure_ (i := 3) (N := some 50) (v := ?_) (a' := ?_) #[true, true, false, true, false, false, false, false, false, false, false, false] rfl rfl (any_of HT_.out (by kernel_rfl)) (fun _ _ _ h => h) (Or.inl ⟨by rfl, ?_⟩) ?_ ?_
              rotate_left
              ·intro w'
               go_simp
               with_reducible rfl
              rotate_left
              ·simp only [Act.put, List.setIfInBounds_toArray, List.set_cons_zero, List.set_cons_succ, i64_w, i32_w]
               rfl
              refine pure_ (i := 5) (N := some 52) (v := ?_) (a' := ?_) #[true, true, false, true, false, true, false, false, false, false, false, false] rfl rfl (any_of HT_.out (by kernel_rfl)) (fun _ _ _ h => h) (Or.inl ⟨by rfl, ?_⟩) ?_ ?_
              rotate_left
              ·intro w'
               go_simp
               with_reducible rfl
              rotate_left
              ·simp only [Act.put, List.setIfInBounds_toArray, List.set_cons_zero, List.set_cons_succ, i64_w, i32_w]
               rfl
              refine pure_ (i := 7) (N := some 54) (v := ?_) (a' := ?_) #[true, true, false, true, false, true, false, true, false, false, false, false] rfl rfl (any_of HT_.out (by kernel_rfl)) (fun _ _ _ h => h) (Or.inl ⟨by rfl, ?_⟩) ?_ ?_
              rotate_left
              ·intro w'
               go_simp
               with_reducible rfl
              rotate_left
              ·simp only [Act.put, List.setIfInBounds_toArray, List.set_cons_zero, List.set_cons_succ, i64_w, i32_w]
               rfl
              refine take_ (i := 2) (N := some 49) (v := ?_) (a' := ?_) #[true, true, true, true, false, true, false, true, false, false, false, false] rfl rfl (take_ofW HT_.out HW_.out (by kernel_rfl)) (fun _ _ _ h => h) (Or.inl ⟨by rfl, ?_⟩) hHeld ?_ ?_
              rotate_left
              ·rintro w' ⟨s0, s1, s2, s3, s4, s5⟩
               go_simp
               with_reducible rfl
              rotate_left
              ·simp only [Act.put, List.setIfInBounds_toArray, List.set_cons_zero, List.set_cons_succ, i64_w, i32_w]
               rfl
              refine pure_ (i := 4) (N := some 51) (v := ?_) (a' := ?_) #[true, true, true, true, true, true, false, true, false, false, false, false] rfl rfl (any_of HT_.out (by kernel_rfl)) (fun _ _ _ h => h) (Or.inl ⟨by rfl, ?_⟩) ?_ ?_
              rotate_left
              ·intro w'
               go_simp
               with_reducible rfl
              rotate_left
              ·simp only [Act.put, List.setIfInBounds_toArray, List.set_cons_zero, List.set_cons_succ, i64_w, i32_w]
               rfl
              refine take_ (i := 6) (N := some 53) (v := ?_) (a' := ?_) #[true, true, true, true, true, true, true, true, false, false, false, false] rfl rfl (take_ofW HT_.out HW_.out (by kernel_rfl)) (fun _ _ _ h => h) (Or.inl ⟨by rfl, ?_⟩) hHeld ?_ ?_
              rotate_left
              ·rintro w' ⟨s0, s1, s2, s3, s4, s5⟩
               go_simp
               with_reducible rfl
              rotate_left
              ·simp only [Act.put, List.setIfInBounds_toArray, List.set_cons_zero, List.set_cons_succ, i64_w, i32_w]
               rfl
              refine pure_ (i := 8) (N := some 55) (v := ?_) (a' := ?_) #[true, true, true, true, true, true, true, true, true, false, false, false] rfl rfl (any_of HT_.out (by kernel_rfl)) (fun _ _ _ h => h) (Or.inl ⟨by rfl, ?_⟩) ?_ ?_
              rotate_left
              ·intro w'
               go_simp
               with_reducible rfl
              rotate_left
              ·simp only [Act.put, List.setIfInBounds_toArray, List.set_cons_zero, List.set_cons_succ, i64_w, i32_w]
               rfl
              refine take_ (i := 9) (N := some 56) (v := ?_) (a' := ?_) #[true, true, true, true, true, true, true, true, true, true, false, false] rfl rfl (take_ofW HT_.out HW_.out (by kernel_rfl)) (fun _ _ _ h => h) (Or.inl ⟨by rfl, ?_⟩) hHeld ?_ ?_
              rotate_left
              ·rintro w' ⟨s0, s1, s2, s3, s4, s5⟩
               go_simp
               with_reducible rfl
              rotate_left
              ·simp only [Act.put, List.setIfInBounds_toArray, List.set_cons_zero, List.set_cons_succ, i64_w, i32_w]
               rfl
              refine one_ (i := 10) (N := some 57) #[true, true, true, true, true, true, true, true, true, true, true, false] rfl rfl (one_of HT_.out (by kernel_rfl)) (by decide) (fun K hK => ?_)
              refine goes_ Tryz.func39 (by kernel_rfl) rfl #[.slice Ao26 x0_4.length co26, .int .i64 (wrap64 (a1_1 + x9_4)), .int .u8 (rd l1_3 x9_4)] (by rfl) rfl rfl (by (try simp only [List.map_toArray, List.map_cons, List.map_nil]); first | done | rfl | (simp only [List.length_drop, List.length_take]; rfl)) ?_
              with_reducible refine (ecdysisref03_write.calls _ _ x0_4 (wrap64 (a1_1 + x9_4)) (rd l1_3 x9_4) t118 _ ?side1 ?side2 A24.out).mono ?_
              (case side1 => repeat (first | exact (Kd.V_reads' HO_0.out).2.2 | (with_reducible refine Kd.C_alloc ?_ _) | (with_reducible refine Kd.C_drewN ?_ _) | (with_reducible refine Kd.C_drew ?_)))
              (case side2 => exact (Kd.V_reads' HO_0.out).2.1)
              rintro e w27 ⟨v119, rfl, ho0, hb⟩
              refine ⟨_, rfl, ?_⟩
              have n0_ := Aside0.mk (Kd.V_elder' (by (with_reducible repeat (first | apply Kd.V_alloc | apply Kd.V_drewN | apply Kd.V_drew)); exact HO_0.out) (Kd.R_base ho0) hb)
              have n1_ := Aside0.mk (Kd.R_lower (Kd.R_newM (M := fun k_ => (w.heap.size ≤ k_)) ho0 (below_size (by repeat (first | (with_reducible first | exact HB.out | apply below_alloc | apply pw_below_drewN | apply below_drew1 | refine below_set ?_ GE115.out) | exact HB.out))) (fun k_ h_ => h_)) (below_size (by repeat (first | (with_reducible first | exact HB.out | apply below_alloc | apply pw_below_drewN | apply below_drew1 | refine below_set ?_ GE115.out) | exact HB.out))))
              have n2_ := Aside0.mk (blk_below (g := gb115) (o := .cells #[.int .i64 a1_0, .int .i64 a1_1, .int .i64 a1_2, .slice (some ad117) l1_3.length c1_3, .slice A1_4 l1_4.length c1_4] 54 (0, 0)) (by (with_reducible repeat (first | refine blk_drewN ?_ _ | refine blk_drew ?_ | refine blk_alloc ?_ _)); exact BK115.out) hb)
              have n3_ := Aside0.mk (below_step (by repeat (first | (with_reducible first | exact HB.out | apply below_alloc | apply pw_below_drewN | apply below_drew1 | refine below_set ?_ GE115.out) | exact HB.out)) hb)
              clear HO_0
              clear BK115
              clear HB
              have HO_0 := n0_
              have HO120 := n1_
              have BK115 := n2_
              have HB := n3_
              clear n0_ n1_ n2_ n3_
              (try clear hb)
              (try clear hb2)
              (try clear hk)
              (try clear hi)
              (try clear ho0)
              refine hK.out _ _ ⟨(blk_cell BK115.out 0).trans rfl, (blk_cell BK115.out 1).trans rfl, (blk_cell BK115.out 2).trans rfl, (blk_cell BK115.out 3).trans rfl, (blk_cell BK115.out 4).trans rfl, ((HB.out.cell (World.block_lt_of_cell? w _ hw117_0)).trans hw117_0)⟩ (fun hHeld => ?_)
              clear hK K
              refine norm_ (a' := ?_) ?_ ?_
              rotate_left
              ·show Act.put _ (some 57) _ = _
               simp only [Act.put, List.setIfInBounds_toArray, List.set_cons_zero, List.set_cons_succ, i64_w, i32_w]
               rfl
              refine pure_ (i := 11) (N := some 0) (v := ?_) (a' := ?_) #[true, true, true, true, true, true, true, true, true, true, true, true] rfl rfl (any_of HT_.out (by kernel_rfl)) (fun _ _ _ h => h) (Or.inl ⟨by rfl, ?_⟩) ?_ ?_
              rotate_left
              ·intro w'
               go_simp
               with_reducible rfl
              rotate_left
              ·simp only [Act.put, List.setIfInBounds_toArray, List.set_cons_zero, List.set_cons_succ, i64_w, i32_w]
               rfl
              refine done_ (done_of HT_.out (by kernel_rfl)) ?_
              try go_wp2
              go_roundg k4
              case measure => have := HJ2.out; have := HJ7.out; have := HJ11.out; have := HK4.out; omega
              case rel => exact ⟨(t118), (wrap64 (x9_4 + 1)), (by first | rfl | (simp; done) | (simp [*]; done)), H', ⟨by have := HJ2.out; have := HJ7.out; have := HJ11.out; have := HK4.out; omega⟩, ⟨Kd.V_mono (Kd.R_V (Kd.R_types HO120.out BK115.out (by decide))) (fun k_ hk => ⟨.inr hk.1.1, hk.2⟩)⟩, ⟨by (with_reducible repeat (first | refine blk_drewN ?_ _ | refine blk_drew ?_ | refine blk_alloc ?_ _)); exact BK115.out⟩, ⟨by repeat (first | (with_reducible first | exact HB.out | apply below_alloc | apply pw_below_drewN | apply below_drew1 | refine below_set ?_ GE115.out) | exact HB.out)⟩⟩
             ·rw [if_neg c23] at H
              exact absurd H (by simp)
            ·rw [if_neg c22] at H
             exact absurd H (by simp)
           ·rw [if_neg c21] at H
            have c21b0 : decide (x9_4 < x7_2) = false := decide_eq_false c21
            clear c21
            have H' := Aside0.mk H
            clear H
            go_wp2
            go_meet
            case rel => exact ⟨_, (x0_4), H', ⟨by have := HJ2.out; have := HJ7.out; have := HJ11.out; have := HK4.out; first | omega | exact Nat.le_refl _⟩, ⟨by (with_reducible repeat (first | apply Kd.V_alloc | apply Kd.V_drewN | apply Kd.V_drew)); exact HO_0.out⟩, ⟨by (with_reducible repeat (first | refine blk_drewN ?_ _ | refine blk_drew ?_ | refine blk_alloc ?_ _)); exact BK115.out⟩, ⟨by repeat (first | (with_reducible first | exact HB.out | apply below_alloc | apply pw_below_drewN | apply below_drew1 | refine below_set ?_ GE115.out) | exact HB.out)⟩⟩
        ·rw [if_neg c20] at H
         have c20b0 : (a1_0 == 0) = false := beq_eq_false_iff_ne.mpr c20
         have c20b1 : (a1_0 != 0) = true := bne_iff_ne.mpr c20
         (first | rw [c20b0] | (simp only [i64_w, i32_w]; rw [c20b0]) | skip)
         by_cases c28 : a1_0 = 1
         ·rw [if_pos c28] at H
          have c28b0 : (a1_0 == 1) = true := beq_iff_eq.mpr c28
          have c28b1 : (a1_0 != 1) = false := bne_eq_false_iff_eq.mpr c28
          clear c28
          replace H := Option.bind_eq_some_iff.mp H
          obtain ⟨t121, A290, H⟩ := H
          replace H : (if 0 ≤ a1_1 then (if a1_1 ≤ (wrap64 (a1_1 + x7_2)) then (if (wrap64 (a1_1 + x7_2)) ≤ (t121.size : Int) then (some (l0, t121.extract (a1_1 : Int).toNat ((wrap64 (a1_1 + x7_2)) : Int).toNat, 0)) else (none)) else (none)) else (none)) = some (r1, r2, r3) := H
          have A29 := Aside0.mk A290
          clear A290
          by_cases c30 : 0 ≤ a1_1
          ·rw [if_pos c30] at H
           have c30b0 := eq_true c30
           have c30b1 : decide (0 ≤ a1_1) = true := decide_eq_true c30
           clear c30
           by_cases c31 : a1_1 ≤ (wrap64 (a1_1 + x7_2))
           ·rw [if_pos c31] at H
            have c31b0 := eq_true c31
            have c31b1 : decide (a1_1 ≤ (wrap64 (a1_1 + x7_2))) = true := decide_eq_true c31
            by_cases c32 : (wrap64 (a1_1 + x7_2)) ≤ (t121.size : Int)
            ·rw [if_pos c32] at H
             have c32b0 := eq_true c32
             have c32b1 : decide ((wrap64 (a1_1 + x7_2)) ≤ (t121.size : Int)) = true := decide_eq_true c32
             simp only [Option.some.injEq, Prod.mk.injEq] at H
             obtain ⟨rfl, rfl, rfl⟩ := H
             try go_wp2
             have n0_ := Aside0.mk (Kd.V_drew HO_0.out)
             have n1_ := Aside0.mk (blk_drew BK115.out)
             have n2_ := Aside0.mk (below_drew1 HB.out)
             clear HO_0
             clear BK115
             clear HB
             have HO_0 := n0_
             have BK115 := n1_
             have HB := n2_
             clear n0_ n1_ n2_
             refine start_ (n := 13) (S := fun w' => w'.cell? ⟨gb115, 0, none⟩ = some (.int .i64 a1_0) ∧ w'.cell? ⟨gb115, 1, none⟩ = some (.int .i64 a1_1) ∧ w'.cell? ⟨gb115, 2, none⟩ = some (.int .i64 a1_2) ∧ w'.cell? ⟨gb115, 3, none⟩ = some (.slice A1_3 l1_3.length c1_3) ∧ w'.cell? ⟨gb115, 4, none⟩ = some (.slice A1_4 l1_4.length c1_4)) (ds := []) #[false, false, false, false, false, false, false, false, false, false, false, false, false] (by kernel_rfl) rfl rfl ⟨(blk_cell BK115.out 0).trans rfl, (blk_cell BK115.out 1).trans rfl, (blk_cell BK115.out 2).trans rfl, (blk_cell BK115.out 3).trans rfl, (blk_cell BK115.out 4).trans rfl⟩ (fun hHeld => ?_); refine with_tabW ecdysisref03_Do.tab15 ecdysisref03_Do.bits15 (fun HT_ HW_ => ?_)
             generalize wc.drew = w33 at HO_0 BK115 HB hHeld ⊢
             refine pure_ (i := 0) (N := some 60) (v := ?_) (a' := ?_) #[true, false, false, false, false, false, false, false, false, false, false, false, false] rfl rfl (any_of HT_.out (by kernel_rfl)) (fun _ _ _ h => h) (Or.inl ⟨by rfl, ?_⟩) ?_ ?_
             rotate_left
             ·intro w'
              go_simp
              with_reducible rfl
             rotate_left
             ·simp only [Act.put, List.setIfInBounds_toArray, List.set_cons_zero, List.set_cons_succ, i64_w, i32_w]
              rfl
             refine pure_ (i := 1) (N := some 61) (v := ?_) (a' := ?_) #[true, true, false, false, false, false, false, false, false, false, false, false, false] rfl rfl (any_of HT_.out (by kernel_rfl)) (fun _ _ _ h => h) (Or.inl ⟨by rfl, ?_⟩) ?_ ?_
             rotate_left
             ·intro w'
              go_simp
              with_reducible rfl
             rotate_left
             ·simp only [Act.put, List.setIfInBounds_toArray, List.set_cons_zero, List.set_cons_succ, i64_w, i32_w]
              rfl
             refine pure_ (i := 3) (N := some 63) (v := ?_) (a' := ?_) #[true, true, false, true, false, false, false, false, false, false, false, false, false] rfl rfl (any_of HT_.out (by kernel_rfl)) (fun _ _ _ h => h) (Or.inl ⟨by rfl, ?_⟩) ?_ ?_
             rotate_left
             ·intro w'
              go_simp
              with_reducible rfl
             rotate_left
             ·simp only [Act.put, List.setIfInBounds_toArray, List.set_cons_zero, List.set_cons_succ, i64_w, i32_w]
              rfl
             refine pure_ (i := 5) (N := some 65) (v := ?_) (a' := ?_) #[true, true, false, true, false, true, false, false, false, false, false, false, false] rfl rfl (any_of HT_.out (by kernel_rfl)) (fun _ _ _ h => h) (Or.inl ⟨by rfl, ?_⟩) ?_ ?_
             rotate_left
             ·intro w'
              go_simp
              with_reducible rfl
             rotate_left
             ·simp only [Act.put, List.setIfInBounds_toArray, List.set_cons_zero, List.set_cons_succ, i64_w, i32_w]
              rfl
             refine pure_ (i := 7) (N := some 67) (v := ?_) (a' := ?_) #[true, true, false, true, false, true, false, true, false, false, false, false, false] rfl rfl (any_of HT_.out (by kernel_rfl)) (fun _ _ _ h => h) (Or.inl ⟨by rfl, ?_⟩) ?_ ?_
             rotate_left
             ·intro w'
              go_simp
              with_reducible rfl
             rotate_left
             ·simp only [Act.put, List.setIfInBounds_toArray, List.set_cons_zero, List.set_cons_succ, i64_w, i32_w]
              rfl
             refine take_ (i := 4) (N := some 64) (v := ?_) (a' := ?_) #[true, true, false, true, true, true, false, true, false, false, false, false, false] rfl rfl (take_ofW HT_.out HW_.out (by kernel_rfl)) (fun _ _ _ h => h) (Or.inl ⟨by rfl, ?_⟩) hHeld ?_ ?_
             rotate_left
             ·rintro w' ⟨s0, s1, s2, s3, s4⟩
              go_simp
              with_reducible rfl
             rotate_left
             ·simp only [Act.put, List.setIfInBounds_toArray, List.set_cons_zero, List.set_cons_succ, i64_w, i32_w]
              rfl
             refine take_ (i := 6) (N := some 66) (v := ?_) (a' := ?_) #[true, true, false, true, true, true, true, true, false, false, false, false, false] rfl rfl (take_ofW HT_.out HW_.out (by kernel_rfl)) (fun _ _ _ h => h) (Or.inl ⟨by rfl, ?_⟩) hHeld ?_ ?_
             rotate_left
             ·rintro w' ⟨s0, s1, s2, s3, s4⟩
              go_simp
              with_reducible rfl
             rotate_left
             ·simp only [Act.put, List.setIfInBounds_toArray, List.set_cons_zero, List.set_cons_succ, i64_w, i32_w]
              rfl
             refine pure_ (i := 8) (N := some 68) (v := ?_) (a' := ?_) #[true, true, false, true, true, true, true, true, true, false, false, false, false] rfl rfl (any_of HT_.out (by kernel_rfl)) (fun _ _ _ h => h) (Or.inl ⟨by rfl, ?_⟩) ?_ ?_
             rotate_left
             ·intro w'
              go_simp
              with_reducible rfl
             rotate_left
             ·simp only [Act.put, List.setIfInBounds_toArray, List.set_cons_zero, List.set_cons_succ, i64_w, i32_w]
              rfl
             refine one_ (i := 2) (N := some 62) #[true, true, true, true, true, true, true, true, true, false, false, false, false] rfl rfl (one_of HT_.out (by kernel_rfl)) (by decide) (fun K hK => ?_)
             refine goes_ Tryz.func27 (by kernel_rfl) rfl #[.slice A0 l0.length c0] (by rfl) rfl rfl (by (try simp only [List.map_toArray, List.map_cons, List.map_nil]); first | done | rfl | (simp only [List.length_drop, List.length_take]; rfl)) ?_
             with_reducible refine (ecdysisref03_Bytes.calls kj11 _ _ l0 t121 _ ?side1 ?side2 A29.out).mono ?_
             (case side1 => repeat (first | exact (Kd.V_reads' HO_0.out).2.2 | (with_reducible refine Kd.C_alloc ?_ _) | (with_reducible refine Kd.C_drewN ?_ _) | (with_reducible refine Kd.C_drew ?_)))
             (case side2 => exact (Kd.V_reads' HO_0.out).2.1)
             rintro e w' ⟨rfl, ⟨nd, rfl⟩⟩
             refine ⟨_, rfl, ?_⟩
             refine hK.out _ _ ⟨(blk_cell BK115.out 0).trans rfl, (blk_cell BK115.out 1).trans rfl, (blk_cell BK115.out 2).trans rfl, (blk_cell BK115.out 3).trans rfl, (blk_cell BK115.out 4).trans rfl⟩ (fun hHeld => ?_)
             clear hK K
             refine norm_ (a' := ?_) ?_ ?_
             rotate_left
             ·show Act.put _ (some 62) _ = _
              simp only [Act.put, List.setIfInBounds_toArray, List.set_cons_zero, List.set_cons_succ, i64_w, i32_w]
              rfl
             refine pure_ (i := 9) (N := some 69) (v := ?_) (a' := ?_) #[true, true, true, true, true, true, true, true, true, true, false, false, false] rfl rfl (any_of HT_.out (by kernel_rfl)) (fun _ _ _ h => h) (Or.inl ⟨by rfl, ?_⟩) ?_ ?_
             rotate_left
             ·intro w'
              go_simp
              with_reducible rfl
             rotate_left
             ·simp only [Act.put, List.setIfInBounds_toArray, List.set_cons_zero, List.set_cons_succ, i64_w, i32_w]
              rfl
             refine pure_ (i := 10) (N := some 4) (v := ?_) (a' := ?_) #[true, true, true, true, true, true, true, true, true, true, true, false, false] rfl rfl (any_of HT_.out (by kernel_rfl)) (fun _ _ _ h => h) (Or.inl ⟨by rfl, ?_⟩) ?_ ?_
             rotate_left
             ·intro w'
              go_simp
              with_reducible rfl
             rotate_left
             ·simp only [Act.put, List.setIfInBounds_toArray, List.set_cons_zero, List.set_cons_succ, i64_w, i32_w]
              rfl
             refine pure_ (i := 11) (N := some 5) (v := ?_) (a' := ?_) #[true, true, true, true, true, true, true, true, true, true, true, true, false] rfl rfl (any_of HT_.out (by kernel_rfl)) (fun _ _ _ h => h) (Or.inl ⟨by rfl, ?_⟩) ?_ ?_
             rotate_left
             ·intro w'
              go_simp
              with_reducible rfl
             rotate_left
             ·simp only [Act.put, List.setIfInBounds_toArray, List.set_cons_zero, List.set_cons_succ, i64_w, i32_w]
              rfl
             refine pure_ (i := 12) (N := some 6) (v := ?_) (a' := ?_) #[true, true, true, true, true, true, true, true, true, true, true, true, true] rfl rfl (any_of HT_.out (by kernel_rfl)) (fun _ _ _ h => h) (Or.inl ⟨by rfl, ?_⟩) ?_ ?_
             rotate_left
             ·intro w'
              go_simp
              with_reducible rfl
             rotate_left
             ·simp only [Act.put, List.setIfInBounds_toArray, List.set_cons_zero, List.set_cons_succ, i64_w, i32_w]
              rfl
             refine done_ (done_of HT_.out (by kernel_rfl)) ?_
             try go_wp2
             go_ret3
             exact ⟨_, by first | rfl | (simp [errW_none, errW_some] <;> rfl) | (simp [*, errW_none, errW_some] <;> rfl), by (with_reducible repeat (first | apply Kd.V_alloc | apply Kd.V_drewN | apply Kd.V_drew)); exact Kd.V_mono HO_0.out (fun _ hk => hk.1), by repeat (first | (with_reducible first | exact HB.out | apply below_alloc | apply pw_below_drewN | apply below_drew1 | refine below_set ?_ GE115.out) | exact HB.out)⟩
            ·rw [if_neg c32] at H
             exact absurd H (by simp)
           ·rw [if_neg c31] at H
            exact absurd H (by simp)
          ·rw [if_neg c30] at H
           exact absurd H (by simp)
         ·rw [if_neg c28] at H
          have c28b0 : (a1_0 == 1) = false := beq_eq_false_iff_ne.mpr c28
          have c28b1 : (a1_0 != 1) = true := bne_iff_ne.mpr c28
          have H' := Aside0.mk H
          clear H
          go_wp2
          go_meet
          case rel => exact ⟨_, (l0), H', ⟨by have := HJ2.out; have := HJ7.out; have := HJ11.out; first | omega | exact Nat.le_refl _⟩, ⟨by (with_reducible repeat (first | apply Kd.V_alloc | apply Kd.V_drewN | apply Kd.V_drew)); exact HO_0.out⟩, ⟨by (with_reducible repeat (first | refine blk_drewN ?_ _ | refine blk_drew ?_ | refine blk_alloc ?_ _)); exact BK115.out⟩, ⟨by repeat (first | (with_reducible first | exact HB.out | apply below_alloc | apply pw_below_drewN | apply below_drew1 | refine below_set ?_ GE115.out) | exact HB.out)⟩⟩
       case rest =>
        clear HC18
        try clear c1
        try clear p1
        try clear q1
        try clear hx1
        try clear c2
        try clear p2
        try clear c3
        try clear c6
        try clear c6b0
        try clear c6b1
        try clear p6
        try clear c9
        try clear c9b0
        try clear p11
        try clear q11
        try clear hx11
        try clear c13
        try clear c15
        try clear c15b0
        try clear c15b1
        try clear c20
        try clear c20b0
        try clear c20b1
        try clear c21
        try clear c21b0
        try clear c22
        try clear c22b0
        try clear c23
        try clear c23b0
        try clear c27
        try clear c28
        try clear c28b0
        try clear c28b1
        try clear c30
        try clear c30b0
        try clear c30b1
        try clear c31
        try clear c31b0
        try clear c31b1
        try clear c32
        try clear c32b0
        try clear c32b1
        try clear hcz10_0
        try clear hcz10_1
        try clear hcz10_2
        try clear hcz10_3
        try clear hcz10_4
        try clear hcz11_0
        try clear hcz11_1
        try clear hcz11_2
        try clear hcz11_3
        try clear hcz11_4
        try clear hcz16_0
        try clear hcz16_1
        try clear hcz16_2
        try clear hcz16_3
        try clear hcz16_4
        try clear hcz17_0
        try clear hcz17_1
        try clear hcz17_2
        try clear hcz17_3
        try clear hcz17_4
        try clear hcz19_0
        try clear hcz19_1
        try clear hcz19_2
        try clear hcz19_3
        try clear hcz19_4
        try clear hcz5_0
        try clear hcz5_1
        try clear hcz5_2
        try clear hcz5_3
        try clear hcz5_4
        try clear hcz7_0
        try clear hcz7_1
        try clear hcz7_2
        try clear hcz7_3
        try clear hcz7_4
        try clear hfz10_0
        try clear hfz10_1
        try clear hfz10_2
        try clear hfz10_3
        try clear hfz10_4
        try clear hfz11_0
        try clear hfz11_1
        try clear hfz11_2
        try clear hfz11_3
        try clear hfz11_4
        try clear hfz16_0
        try clear hfz16_1
        try clear hfz16_2
        try clear hfz16_3
        try clear hfz16_4
        try clear hfz17_0
        try clear hfz17_1
        try clear hfz17_2
        try clear hfz17_3
        try clear hfz17_4
        try clear hfz19_0
        try clear hfz19_1
        try clear hfz19_2
        try clear hfz19_3
        try clear hfz19_4
        try clear hfz5_0
        try clear hfz5_1
        try clear hfz5_2
        try clear hfz5_3
        try clear hfz5_4
        try clear hfz7_0
        try clear hfz7_1
        try clear hfz7_2
        try clear hfz7_3
        try clear hfz7_4
        try clear hx117_0
        try clear p117
        try clear p2
        try clear q117
        obtain ⟨kq, x0_17, HA, HJ17, HO_0, BK115, HB⟩ := hcut
        cases kq with
        | zero => exact absurd HA.out (by simp [ecdysisref03_Do.j4])
        | succ kj17 =>
         have H := HA.out
         clear HA
         simp only [ecdysisref03_Do.j4] at H
         obtain ⟨y122, hy122⟩ : ∃ y_ : List (S94), y_ = (([] : List (S94))) := ⟨_, rfl⟩
         replace H : (if y122.length + x0_17.length < 3518437208883 then (ecdysisref03_Do.l1 kj17 x7_2 (y122 ++ x0_17) 0 a1_0 a1_1 a1_2 l1_3 l1_4) else (none)) = some (r1, r2, r3) := by first | (rw [hy122]; with_reducible exact H) | (have H2_ := (Option.bind_some _ _).symm.trans H; rw [hy122]; with_reducible exact H2_) | (have H2_ := (Option.bind_some _ _).symm.trans H; with_reducible exact H2_) | with_reducible exact H | (rw [hy122]; exact H) | exact H
         have Ny122 := Aside0.mk hy122
         clear hy122
         by_cases c34 : y122.length + x0_17.length < 3518437208883
         ·rw [if_pos c34] at H
          have LMc34 := Aside0.mk c34
          clear c34
          obtain ⟨y125, hy125⟩ : ∃ y_ : List (S94), y_ = (y122 ++ x0_17) := ⟨_, rfl⟩
          replace H : (ecdysisref03_Do.l1 kj17 x7_2 y125 0 a1_0 a1_1 a1_2 l1_3 l1_4) = some (r1, r2, r3) := by first | (rw [hy125]; with_reducible exact H) | (have H2_ := (Option.bind_some _ _).symm.trans H; rw [hy125]; with_reducible exact H2_) | (have H2_ := (Option.bind_some _ _).symm.trans H; with_reducible exact H2_) | with_reducible exact H | (rw [hy125]; exact H) | exact H
          have Ny125 := Aside0.mk hy125
          clear hy125
          have H' := Aside0.mk H
          clear H
          go_wp2_with (first | ((with_reducible refine gate_dst (N := 70) rfl ?_); refine Kd.R_lit k94 _ 94 ?hg (N := 70) ?hd (xs := ([] : List (S94))) (inner := []) (ok := fun _ => True) (okp := fun _ => True) ?hr ?hp (fun _ hk => hk) trivial (Below.refl _ _) (Nat.le_refl _) (by simp) ?_; (case hd => rfl); (case hg => rfl); (case hr => first | (go_simp; done) | (go_simp; rfl)); (case hp => exact (Reps.none _ _)); intro v123 w35 ho36 hb hg_ hnew_; clear hg_ hnew_; (first | rw [← Ny122.out] at ho36 | (simp only [Int.reduceToNat] at ho36; rw [← Ny122.out] at ho36)); have n0_ := Aside0.mk (Kd.V_elder' (by (with_reducible repeat (first | apply Kd.V_alloc | apply Kd.V_drewN | apply Kd.V_drew)); exact HO_0.out) (Kd.R_base ho36) hb); have n1_ := Aside0.mk (Kd.R_lower (Kd.R_newM (M := fun k_ => (w.heap.size ≤ k_)) ho36 (below_size (by repeat (first | (with_reducible first | exact HB.out | apply below_alloc | apply pw_below_drewN | apply below_drew1 | refine below_set ?_ GE115.out) | exact HB.out))) (fun k_ h_ => h_)) (below_size (by repeat (first | (with_reducible first | exact HB.out | apply below_alloc | apply pw_below_drewN | apply below_drew1 | refine below_set ?_ GE115.out) | exact HB.out)))); have n2_ := Aside0.mk (blk_below (g := gb115) (o := .cells #[.int .i64 a1_0, .int .i64 a1_1, .int .i64 a1_2, .slice A1_3 l1_3.length c1_3, .slice A1_4 l1_4.length c1_4] 54 (0, 0)) (by (with_reducible repeat (first | refine blk_drewN ?_ _ | refine blk_drew ?_ | refine blk_alloc ?_ _)); exact BK115.out) hb); have n3_ := Aside0.mk (below_step (by repeat (first | (with_reducible first | exact HB.out | apply below_alloc | apply pw_below_drewN | apply below_drew1 | refine below_set ?_ GE115.out) | exact HB.out)) hb); clear HO_0; clear BK115; clear HB; have HO_0 := n0_; have HO124 := n1_; have BK115 := n2_; have HB := n3_; clear n0_ n1_ n2_ n3_; clear hb ho36; obtain ⟨Ao38, co38, eo38⟩ := Kd.V_slice HO_0.out; subst eo38) | ((with_reducible refine gate_builtin (b := .append) (xs := #[.tmp 70, .tmp 71]) rfl ?_); at_builtin; refine Kd.R_append_rows k94 (w0 := w) w.heap.size rfl (.tmp 70) (.tmp 71) 30 94 (.agg #[(.string ⟨#[]⟩), (.string ⟨#[]⟩), (.bool false), (.bool false)]) 40 rfl Tryz.underlying30 info94 rfl (by decide) (by omega) v123 y122 x0_17 _ _ _ (fun k_ => (w.heap.size ≤ k_)) (fun _ => False) rfl rfl ?aO ?aR (fun _ _ h => h) (fun _ h => h.elim) ?aF ?aB ?aS ?aL ?_; (case aR => repeat (first | exact (Kd.V_reads' HO_0.out).2.2 | (with_reducible refine Kd.C_alloc ?_ _) | (with_reducible refine Kd.C_drewN ?_ _) | (with_reducible refine Kd.C_drew ?_))); (case aB => exact (by repeat (first | (with_reducible first | exact HB.out | apply below_alloc | apply pw_below_drewN | apply below_drew1 | refine below_set ?_ GE115.out) | exact HB.out))); (case aF => exact (fun k_ hk => (Nat.le_trans (below_size (by repeat (first | (with_reducible first | exact HB.out | apply below_alloc | apply pw_below_drewN | apply below_drew1 | refine below_set ?_ GE115.out) | exact HB.out))) hk))); (case aO => exact (by (with_reducible repeat (first | apply Kd.R_alloc | apply Kd.R_drewN | apply Kd.R_drew)); exact Kd.R_mono HO124.out (fun _ hk => hk.1))); (case aS => exact (below_size (by repeat (first | (with_reducible first | exact HB.out | apply below_alloc | apply pw_below_drewN | apply below_drew1 | refine below_set ?_ GE115.out) | exact HB.out)))); (case aL => have := LMc34.out; omega); intro v126 w37 ho hb hg hat; rw [← Ny125.out] at ho; have n0_ := Aside0.mk (Kd.V_afterv (ok := (fun k_ => (P0_ k_ ∨ w.heap.size ≤ k_) ∧ k_ ≠ gb115)) (by (with_reducible repeat (first | apply Kd.V_alloc | apply Kd.V_drewN | apply Kd.V_drew)); exact HO_0.out) hg hat); have n1_ := Aside0.mk (blk_grown (g := gb115) (o := .cells #[.int .i64 a1_0, .int .i64 a1_1, .int .i64 a1_2, .slice A1_3 l1_3.length c1_3, .slice A1_4 l1_4.length c1_4] 54 (0, 0)) (by (with_reducible repeat (first | refine blk_drewN ?_ _ | refine blk_drew ?_ | refine blk_alloc ?_ _)); exact BK115.out) hg (Kd.R_ne HO124.out BK115.out (by decide))); have n2_ := Aside0.mk (hb); have n3_ := Aside0.mk (ho); clear HO_0; clear BK115; clear HB; clear HO124; have HO_0 := n0_; have BK115 := n1_; have HB := n2_; have HO127 := n3_; clear n0_ n1_ n2_ n3_; clear ho hb hg hat))
          go_loopg [11] kj17 (fun kq v11 w' => ∃ (x10_5 : List (S94)) (x11_5 : Int), v11 = .int .i64 x11_5 ∧ Aside0 (ecdysisref03_Do.l1 kq x7_2 x10_5 x11_5 a1_0 a1_1 a1_2 l1_3 l1_4 = some (r1, r2, r3)) ∧ Aside0 (kq ≤ kj17) ∧ Aside0 (Kd.R k94 94 w' w.heap.size (fun k_ => (w.heap.size ≤ k_)) v126 x10_5) ∧ Aside0 (w'.heap[gb115]? = some (.cells #[.int .i64 a1_0, .int .i64 a1_1, .int .i64 a1_2, (.slice A1_3 l1_3.length c1_3), (.slice A1_4 l1_4.length c1_4)] 54 (0, 0))) ∧ Aside0 (Below w.heap.size w w'))
          case atStart => exact ⟨(y125), (0), (by first | rfl | (simp; done) | (simp [*]; done)), H', ⟨Nat.le_refl _⟩, ⟨by (with_reducible repeat (first | apply Kd.R_alloc | apply Kd.R_drewN | apply Kd.R_drew)); exact HO127.out⟩, ⟨by (with_reducible repeat (first | refine blk_drewN ?_ _ | refine blk_drew ?_ | refine blk_alloc ?_ _)); exact BK115.out⟩, ⟨by repeat (first | (with_reducible first | exact HB.out | apply below_alloc | apply pw_below_drewN | apply below_drew1 | refine below_set ?_ GE115.out) | exact HB.out)⟩⟩
          case round =>
           clear H'
           try clear c1
           try clear p1
           try clear q1
           try clear hx1
           try clear c2
           try clear p2
           try clear c3
           try clear c6
           try clear c6b0
           try clear c6b1
           try clear p6
           try clear c9
           try clear c9b0
           try clear p11
           try clear q11
           try clear hx11
           try clear c13
           try clear c15
           try clear c15b0
           try clear c15b1
           try clear c20
           try clear c20b0
           try clear c20b1
           try clear c21
           try clear c21b0
           try clear c22
           try clear c22b0
           try clear c23
           try clear c23b0
           try clear c27
           try clear c28
           try clear c28b0
           try clear c28b1
           try clear c30
           try clear c30b0
           try clear c30b1
           try clear c31
           try clear c31b0
           try clear c31b1
           try clear c32
           try clear c32b0
           try clear c32b1
           try clear c34
           try clear hcz10_0
           try clear hcz10_1
           try clear hcz10_2
           try clear hcz10_3
           try clear hcz10_4
           try clear hcz11_0
           try clear hcz11_1
           try clear hcz11_2
           try clear hcz11_3
           try clear hcz11_4
           try clear hcz16_0
           try clear hcz16_1
           try clear hcz16_2
           try clear hcz16_3
           try clear hcz16_4
           try clear hcz17_0
           try clear hcz17_1
           try clear hcz17_2
           try clear hcz17_3
           try clear hcz17_4
           try clear hcz19_0
           try clear hcz19_1
           try clear hcz19_2
           try clear hcz19_3
           try clear hcz19_4
           try clear hcz5_0
           try clear hcz5_1
           try clear hcz5_2
           try clear hcz5_3
           try clear hcz5_4
           try clear hcz7_0
           try clear hcz7_1
           try clear hcz7_2
           try clear hcz7_3
           try clear hcz7_4
           try clear hfz10_0
           try clear hfz10_1
           try clear hfz10_2
           try clear hfz10_3
           try clear hfz10_4
           try clear hfz11_0
           try clear hfz11_1
           try clear hfz11_2
           try clear hfz11_3
           try clear hfz11_4
           try clear hfz16_0
           try clear hfz16_1
           try clear hfz16_2
           try clear hfz16_3
           try clear hfz16_4
           try clear hfz17_0
           try clear hfz17_1
           try clear hfz17_2
           try clear hfz17_3
           try clear hfz17_4
           try clear hfz19_0
           try clear hfz19_1
           try clear hfz19_2
           try clear hfz19_3
           try clear hfz19_4
           try clear hfz5_0
           try clear hfz5_1
           try clear hfz5_2
           try clear hfz5_3
           try clear hfz5_4
           try clear hfz7_0
           try clear hfz7_1
           try clear hfz7_2
           try clear hfz7_3
           try clear hfz7_4
           try clear hx117_0
           try clear p1
           try clear p11
           try clear p117
           try clear p2
           try clear p6
           try clear q1
           try clear q11
           try clear q117
           obtain ⟨x10_5, x11_5, rfl, HA, HK5, HO_10, BK115, HB⟩ := hrel
           cases gk with
           | zero => exact absurd HA.out (by simp [ecdysisref03_Do.l1])
           | succ k5 =>
            have H := HA.out
            clear HA
            simp only [ecdysisref03_Do.l1] at H
            by_cases c39 : x11_5 < (x10_5.length : Int)
            ·rw [if_pos c39] at H
             have c39b0 : decide (x11_5 < (x10_5.length : Int)) = true := decide_eq_true c39
             clear c39
             by_cases c40 : 0 ≤ x11_5
             ·rw [if_pos c40] at H
              have c40b0 : decide (0 ≤ x11_5) = true := decide_eq_true c40
              clear c40
              have HC41 := Aside0.mk H
              clear H
              obtain ⟨Ao42, co42, eo42⟩ := Kd.R_slice HO_10.out
              subst eo42
              have p128 : 0 ≤ (x11_5 : Int) := of_decide_eq_true (by first | (with_reducible assumption) | assumption)
              have q128 : x11_5 < (x10_5.length : Int) := of_decide_eq_true (by first | (with_reducible assumption) | assumption)
              obtain ⟨ad128, e128, hx128_0, hx128_1, hx128_2, hx128_3⟩ := at_T94 (Kd.R_reads' HO_10.out).2.2 x11_5 p128 q128
              cases e128
              replace p128 := eq_true p128
              replace q128 := eq_true q128
              go_upto_region 21 with (first | ((with_reducible refine gate_dst (N := 12) rfl ?_); refine box_event ?hg (N := 12) ?hd (cs := #[.string (⟨#[]⟩ : ByteArray), .string (⟨#[]⟩ : ByteArray), .bool false, .bool false]) (t := 94) ?hr ?_; (case hd => rfl); (case hg => rfl); (case hr => first | (go_simp; done) | (go_simp; rfl)); intro gb129 hg w43 hbox hb; have n0_ := Aside0.mk (Kd.R_below (Kd.R_elderB (by (with_reducible repeat (first | apply Kd.R_alloc | apply Kd.R_drewN | apply Kd.R_drew)); exact HO_10.out) gb129 (Nat.le_of_eq hg.symm)) hb); have n1_ := Aside0.mk (blk_below (g := gb115) (o := .cells #[.int .i64 a1_0, .int .i64 a1_1, .int .i64 a1_2, .slice A1_3 l1_3.length c1_3, .slice A1_4 l1_4.length c1_4] 54 (0, 0)) (by (with_reducible repeat (first | refine blk_drewN ?_ _ | refine blk_drew ?_ | refine blk_alloc ?_ _)); exact BK115.out) hb); have n2_ := Aside0.mk (below_step (by repeat (first | (with_reducible first | exact HB.out | apply below_alloc | apply pw_below_drewN | apply below_drew1 | refine below_set ?_ GE115.out) | exact HB.out)) hb); have n3_ := Aside0.mk (hbox); have n4_ := Aside0.mk ((by rw [hg]; exact (below_size (by repeat (first | (with_reducible first | exact HB.out | apply below_alloc | apply pw_below_drewN | apply below_drew1 | refine below_set ?_ GE115.out) | exact HB.out))) : w.heap.size ≤ gb129)); have n5_ := Aside0.mk ((by rw [hg]; exact (below_size (by repeat (first | (with_reducible first | exact HB.out | apply below_alloc | apply pw_below_drewN | apply below_drew1 | refine below_set ?_ GE115.out) | exact HB.out))) : w.heap.size ≤ gb129)); have n6_ := Aside0.mk ((by rw [hg]; exact Nat.ne_of_lt (blk_lt (g := gb115) (o := .cells #[.int .i64 a1_0, .int .i64 a1_1, .int .i64 a1_2, .slice A1_3 l1_3.length c1_3, .slice A1_4 l1_4.length c1_4] 54 (0, 0)) (by (with_reducible repeat (first | refine blk_drewN ?_ _ | refine blk_drew ?_ | refine blk_alloc ?_ _)); exact BK115.out)) : gb115 ≠ gb129)); have n7_ := Aside0.mk ((by rw [hg]; exact Nat.ne_of_gt (blk_lt (g := gb115) (o := .cells #[.int .i64 a1_0, .int .i64 a1_1, .int .i64 a1_2, .slice A1_3 l1_3.length c1_3, .slice A1_4 l1_4.length c1_4] 54 (0, 0)) (by (with_reducible repeat (first | refine blk_drewN ?_ _ | refine blk_drew ?_ | refine blk_alloc ?_ _)); exact BK115.out)) : gb129 ≠ gb115)); clear HO_10; clear BK115; clear HB; have HO_10 := n0_; have BK115 := n1_; have HB := n2_; have BK129 := n3_; have GW129 := n4_; have GE129 := n5_; have NB115_129 := n6_; have NB129_115 := n7_; clear n0_ n1_ n2_ n3_ n4_ n5_ n6_ n7_; clear hb hbox hg; have hnb44 := NB129_115.out; have hnc44 := NB115_129.out; have hcz45_0 : w43.cell? ⟨gb129, 0, none⟩ = some (.string (⟨#[]⟩ : ByteArray)) := (blk_cell BK129.out 0).trans rfl; have hcz45_1 : w43.cell? ⟨gb129, 1, none⟩ = some (.string (⟨#[]⟩ : ByteArray)) := (blk_cell BK129.out 1).trans rfl; have hcz45_2 : w43.cell? ⟨gb129, 2, none⟩ = some (.bool false) := (blk_cell BK129.out 2).trans rfl; have hcz45_3 : w43.cell? ⟨gb129, 3, none⟩ = some (.bool false) := (blk_cell BK129.out 3).trans rfl; have hfz45_0 := blk_frozen BK129.out 0; have hfz45_1 := blk_frozen BK129.out 1; have hfz45_2 := blk_frozen BK129.out 2; have hfz45_3 := blk_frozen BK129.out 3))
              (try simp only [Act.put, List.setIfInBounds_toArray, List.set_cons_zero, List.set_cons_succ])
              go_cut [110] (fun v110 wc => ∃ (kq : Nat) (x110_40 : Bool), v110 = .bool x110_40 ∧ Aside0 (ecdysisref03_Do.j6 kq x7_2 x10_5 x11_5 x110_40 a1_0 a1_1 a1_2 l1_3 l1_4 ((rd_T94 x10_5 x11_5).f0) ((rd_T94 x10_5 x11_5).f1) ((rd_T94 x10_5 x11_5).f2) ((rd_T94 x10_5 x11_5).f3) = some (r1, r2, r3)) ∧ Aside0 (kq ≤ k5) ∧ Aside0 (Kd.R k94 94 wc w.heap.size (fun k_ => (w.heap.size ≤ k_) ∧ k_ ≠ gb129) (.slice (some ad128) x10_5.length co42) x10_5) ∧ Aside0 (wc.heap[gb115]? = some (.cells #[.int .i64 a1_0, .int .i64 a1_1, .int .i64 a1_2, (.slice A1_3 l1_3.length c1_3), (.slice A1_4 l1_4.length c1_4)] 54 (0, 0))) ∧ Aside0 (wc.heap[gb129]? = some (.cells #[.string ((rd_T94 x10_5 x11_5).f0), .string ((rd_T94 x10_5 x11_5).f1), .bool ((rd_T94 x10_5 x11_5).f2), .bool ((rd_T94 x10_5 x11_5).f3)] 94 (0, 0))) ∧ Aside0 (Below w.heap.size w wc))
              case first =>
               have H := HC41.out
               clear HC41
               by_cases c46 : a1_0 = 2
               ·rw [if_pos c46] at H
                have c46b0 : (a1_0 == 2) = true := beq_iff_eq.mpr c46
                have c46b1 : (a1_0 != 2) = false := bne_eq_false_iff_eq.mpr c46
                clear c46
                (first | rw [c46b0] | (simp only [i64_w, i32_w]; rw [c46b0]) | skip)
                by_cases c47 : x7_2 > 0
                ·rw [if_pos c47] at H
                 have c47b0 : decide (0 < x7_2) = true := decide_eq_true c47
                 clear c47
                 by_cases c48 : (wrap64 (8 * x11_5)) < (wrap64 (a1_1 + x7_2))
                 ·rw [if_pos c48] at H
                  have c48b0 : decide ((wrap64 (8 * x11_5)) < (wrap64 (a1_1 + x7_2))) = true := decide_eq_true c48
                  clear c48
                  by_cases c49 : (wrap64 ((wrap64 (8 * x11_5)) + 8)) > a1_1
                  ·rw [if_pos c49] at H
                   have c49b0 : decide (a1_1 < (wrap64 ((wrap64 (8 * x11_5)) + 8))) = true := decide_eq_true c49
                   clear c49
                   have H' := Aside0.mk H
                   clear H
                   have hnb50 := NB115_129.out
                   have hnc50 := NB129_115.out
                   have hcz51_0 : w43.cell? ⟨gb115, 0, none⟩ = some (.int .i64 a1_0) := (blk_cell BK115.out 0).trans rfl
                   have hcz51_1 : w43.cell? ⟨gb115, 1, none⟩ = some (.int .i64 a1_1) := (blk_cell BK115.out 1).trans rfl
                   have hcz51_2 : w43.cell? ⟨gb115, 2, none⟩ = some (.int .i64 a1_2) := (blk_cell BK115.out 2).trans rfl
                   have hcz51_3 : w43.cell? ⟨gb115, 3, none⟩ = some (.slice A1_3 l1_3.length c1_3) := (blk_cell BK115.out 3).trans rfl
                   have hcz51_4 : w43.cell? ⟨gb115, 4, none⟩ = some (.slice A1_4 l1_4.length c1_4) := (blk_cell BK115.out 4).trans rfl
                   have hfz51_0 := blk_frozen BK115.out 0
                   have hfz51_1 := blk_frozen BK115.out 1
                   have hfz51_2 := blk_frozen BK115.out 2
                   have hfz51_3 := blk_frozen BK115.out 3
                   have hfz51_4 := blk_frozen BK115.out 4
                   have hcz52_0 : w43.cell? ⟨gb129, 0, none⟩ = some (.string (⟨#[]⟩ : ByteArray)) := (blk_cell BK129.out 0).trans rfl
                   have hcz52_1 : w43.cell? ⟨gb129, 1, none⟩ = some (.string (⟨#[]⟩ : ByteArray)) := (blk_cell BK129.out 1).trans rfl
                   have hcz52_2 : w43.cell? ⟨gb129, 2, none⟩ = some (.bool false) := (blk_cell BK129.out 2).trans rfl
                   have hcz52_3 : w43.cell? ⟨gb129, 3, none⟩ = some (.bool false) := (blk_cell BK129.out 3).trans rfl
                   have hfz52_0 := blk_frozen BK129.out 0
                   have hfz52_1 := blk_frozen BK129.out 1
                   have hfz52_2 := blk_frozen BK129.out 2
                   have hfz52_3 := blk_frozen BK129.out 3
                   go_wp2
                   go_meet
                   case rel => exact ⟨_, ((rd_T94 x10_5 x11_5).f2), (by first | rfl | (simp; done) | (simp [*]; done)), H', ⟨by have := HJ2.out; have := HJ7.out; have := HJ11.out; have := HJ17.out; have := HK5.out; first | omega | exact Nat.le_refl _⟩, ⟨by (with_reducible repeat (first | apply Kd.R_alloc | apply Kd.R_drewN | apply Kd.R_drew)); exact Kd.R_mono (Kd.R_far (p := ⟨gb129, 3, none⟩) (Kd.R_far (p := ⟨gb129, 2, none⟩) (Kd.R_far (p := ⟨gb129, 1, none⟩) (Kd.R_far (p := ⟨gb129, 0, none⟩) (Kd.R_mono HO_10.out (fun k_ hk => (⟨hk, hk.2⟩ : _ ∧ k_ ≠ gb129))) (fun _ hk => hk.2) (.string ((rd_T94 x10_5 x11_5).f0))) (fun _ hk => hk.2) (.string ((rd_T94 x10_5 x11_5).f1))) (fun _ hk => hk.2) (.bool ((rd_T94 x10_5 x11_5).f2))) (fun _ hk => hk.2) (.bool ((rd_T94 x10_5 x11_5).f3))) (fun _ hk => ⟨hk.1.1, hk.1.2⟩)⟩, ⟨by (with_reducible repeat (first | refine blk_drewN ?_ _ | refine blk_drew ?_ | refine blk_alloc ?_ _)); refine blk_far ?_ NB115_129.out _; (with_reducible repeat (first | refine blk_drewN ?_ _ | refine blk_drew ?_ | refine blk_alloc ?_ _)); refine blk_far ?_ NB115_129.out _; (with_reducible repeat (first | refine blk_drewN ?_ _ | refine blk_drew ?_ | refine blk_alloc ?_ _)); refine blk_far ?_ NB115_129.out _; (with_reducible repeat (first | refine blk_drewN ?_ _ | refine blk_drew ?_ | refine blk_alloc ?_ _)); refine blk_far ?_ NB115_129.out _; (with_reducible repeat (first | refine blk_drewN ?_ _ | refine blk_drew ?_ | refine blk_alloc ?_ _)); exact BK115.out⟩, ⟨by (with_reducible repeat (first | refine blk_drewN ?_ _ | refine blk_drew ?_ | refine blk_alloc ?_ _)); refine blk_put (cs := #[.string ((rd_T94 x10_5 x11_5).f0), .string ((rd_T94 x10_5 x11_5).f1), .bool ((rd_T94 x10_5 x11_5).f2), .bool false]) ?_ 3 _ rfl; (with_reducible repeat (first | refine blk_drewN ?_ _ | refine blk_drew ?_ | refine blk_alloc ?_ _)); refine blk_put (cs := #[.string ((rd_T94 x10_5 x11_5).f0), .string ((rd_T94 x10_5 x11_5).f1), .bool false, .bool false]) ?_ 2 _ rfl; (with_reducible repeat (first | refine blk_drewN ?_ _ | refine blk_drew ?_ | refine blk_alloc ?_ _)); refine blk_put (cs := #[.string ((rd_T94 x10_5 x11_5).f0), .string (⟨#[]⟩ : ByteArray), .bool false, .bool false]) ?_ 1 _ rfl; (with_reducible repeat (first | refine blk_drewN ?_ _ | refine blk_drew ?_ | refine blk_alloc ?_ _)); refine blk_put (cs := #[.string (⟨#[]⟩ : ByteArray), .string (⟨#[]⟩ : ByteArray), .bool false, .bool false]) ?_ 0 _ rfl; (with_reducible repeat (first | refine blk_drewN ?_ _ | refine blk_drew ?_ | refine blk_alloc ?_ _)); exact BK129.out⟩, ⟨by repeat (first | (with_reducible first | exact HB.out | apply below_alloc | apply pw_below_drewN | apply below_drew1 | refine below_set ?_ GE115.out | refine below_set ?_ GE129.out) | exact HB.out)⟩⟩
                  ·rw [if_neg c49] at H
                   have c49b0 : decide (a1_1 < (wrap64 ((wrap64 (8 * x11_5)) + 8))) = false := decide_eq_false c49
                   clear c49
                   have H' := Aside0.mk H
                   clear H
                   have hnb53 := NB115_129.out
                   have hnc53 := NB129_115.out
                   have hcz54_0 : w43.cell? ⟨gb115, 0, none⟩ = some (.int .i64 a1_0) := (blk_cell BK115.out 0).trans rfl
                   have hcz54_1 : w43.cell? ⟨gb115, 1, none⟩ = some (.int .i64 a1_1) := (blk_cell BK115.out 1).trans rfl
                   have hcz54_2 : w43.cell? ⟨gb115, 2, none⟩ = some (.int .i64 a1_2) := (blk_cell BK115.out 2).trans rfl
                   have hcz54_3 : w43.cell? ⟨gb115, 3, none⟩ = some (.slice A1_3 l1_3.length c1_3) := (blk_cell BK115.out 3).trans rfl
                   have hcz54_4 : w43.cell? ⟨gb115, 4, none⟩ = some (.slice A1_4 l1_4.length c1_4) := (blk_cell BK115.out 4).trans rfl
                   have hfz54_0 := blk_frozen BK115.out 0
                   have hfz54_1 := blk_frozen BK115.out 1
                   have hfz54_2 := blk_frozen BK115.out 2
                   have hfz54_3 := blk_frozen BK115.out 3
                   have hfz54_4 := blk_frozen BK115.out 4
                   go_wp2
                   go_meet
                   case rel => exact ⟨_, (false), (by first | rfl | (simp; done) | (simp [*]; done)), H', ⟨by have := HJ2.out; have := HJ7.out; have := HJ11.out; have := HJ17.out; have := HK5.out; first | omega | exact Nat.le_refl _⟩, ⟨by (with_reducible repeat (first | apply Kd.R_alloc | apply Kd.R_drewN | apply Kd.R_drew)); exact Kd.R_mono (Kd.R_far (p := ⟨gb129, 3, none⟩) (Kd.R_far (p := ⟨gb129, 2, none⟩) (Kd.R_far (p := ⟨gb129, 1, none⟩) (Kd.R_far (p := ⟨gb129, 0, none⟩) (Kd.R_mono HO_10.out (fun k_ hk => (⟨hk, hk.2⟩ : _ ∧ k_ ≠ gb129))) (fun _ hk => hk.2) (.string ((rd_T94 x10_5 x11_5).f0))) (fun _ hk => hk.2) (.string ((rd_T94 x10_5 x11_5).f1))) (fun _ hk => hk.2) (.bool ((rd_T94 x10_5 x11_5).f2))) (fun _ hk => hk.2) (.bool ((rd_T94 x10_5 x11_5).f3))) (fun _ hk => ⟨hk.1.1, hk.1.2⟩)⟩, ⟨by (with_reducible repeat (first | refine blk_drewN ?_ _ | refine blk_drew ?_ | refine blk_alloc ?_ _)); refine blk_far ?_ NB115_129.out _; (with_reducible repeat (first | refine blk_drewN ?_ _ | refine blk_drew ?_ | refine blk_alloc ?_ _)); refine blk_far ?_ NB115_129.out _; (with_reducible repeat (first | refine blk_drewN ?_ _ | refine blk_drew ?_ | refine blk_alloc ?_ _)); refine blk_far ?_ NB115_129.out _; (with_reducible repeat (first | refine blk_drewN ?_ _ | refine blk_drew ?_ | refine blk_alloc ?_ _)); refine blk_far ?_ NB115_129.out _; (with_reducible repeat (first | refine blk_drewN ?_ _ | refine blk_drew ?_ | refine blk_alloc ?_ _)); exact BK115.out⟩, ⟨by (with_reducible repeat (first | refine blk_drewN ?_ _ | refine blk_drew ?_ | refine blk_alloc ?_ _)); refine blk_put (cs := #[.string ((rd_T94 x10_5 x11_5).f0), .string ((rd_T94 x10_5 x11_5).f1), .bool ((rd_T94 x10_5 x11_5).f2), .bool false]) ?_ 3 _ rfl; (with_reducible repeat (first | refine blk_drewN ?_ _ | refine blk_drew ?_ | refine blk_alloc ?_ _)); refine blk_put (cs := #[.string ((rd_T94 x10_5 x11_5).f0), .string ((rd_T94 x10_5 x11_5).f1), .bool false, .bool false]) ?_ 2 _ rfl; (with_reducible repeat (first | refine blk_drewN ?_ _ | refine blk_drew ?_ | refine blk_alloc ?_ _)); refine blk_put (cs := #[.string ((rd_T94 x10_5 x11_5).f0), .string (⟨#[]⟩ : ByteArray), .bool false, .bool false]) ?_ 1 _ rfl; (with_reducible repeat (first | refine blk_drewN ?_ _ | refine blk_drew ?_ | refine blk_alloc ?_ _)); refine blk_put (cs := #[.string (⟨#[]⟩ : ByteArray), .string (⟨#[]⟩ : ByteArray), .bool false, .bool false]) ?_ 0 _ rfl; (with_reducible repeat (first | refine blk_drewN ?_ _ | refine blk_drew ?_ | refine blk_alloc ?_ _)); exact BK129.out⟩, ⟨by repeat (first | (with_reducible first | exact HB.out | apply below_alloc | apply pw_below_drewN | apply below_drew1 | refine below_set ?_ GE115.out | refine below_set ?_ GE129.out) | exact HB.out)⟩⟩
                 ·rw [if_neg c48] at H
                  have c48b0 : decide ((wrap64 (8 * x11_5)) < (wrap64 (a1_1 + x7_2))) = false := decide_eq_false c48
                  clear c48
                  have H' := Aside0.mk H
                  clear H
                  have hnb55 := NB115_129.out
                  have hnc55 := NB129_115.out
                  have hcz56_0 : w43.cell? ⟨gb115, 0, none⟩ = some (.int .i64 a1_0) := (blk_cell BK115.out 0).trans rfl
                  have hcz56_1 : w43.cell? ⟨gb115, 1, none⟩ = some (.int .i64 a1_1) := (blk_cell BK115.out 1).trans rfl
                  have hcz56_2 : w43.cell? ⟨gb115, 2, none⟩ = some (.int .i64 a1_2) := (blk_cell BK115.out 2).trans rfl
                  have hcz56_3 : w43.cell? ⟨gb115, 3, none⟩ = some (.slice A1_3 l1_3.length c1_3) := (blk_cell BK115.out 3).trans rfl
                  have hcz56_4 : w43.cell? ⟨gb115, 4, none⟩ = some (.slice A1_4 l1_4.length c1_4) := (blk_cell BK115.out 4).trans rfl
                  have hfz56_0 := blk_frozen BK115.out 0
                  have hfz56_1 := blk_frozen BK115.out 1
                  have hfz56_2 := blk_frozen BK115.out 2
                  have hfz56_3 := blk_frozen BK115.out 3
                  have hfz56_4 := blk_frozen BK115.out 4
                  go_wp2
                  go_meet
                  case rel => exact ⟨_, (false), (by first | rfl | (simp; done) | (simp [*]; done)), H', ⟨by have := HJ2.out; have := HJ7.out; have := HJ11.out; have := HJ17.out; have := HK5.out; first | omega | exact Nat.le_refl _⟩, ⟨by (with_reducible repeat (first | apply Kd.R_alloc | apply Kd.R_drewN | apply Kd.R_drew)); exact Kd.R_mono (Kd.R_far (p := ⟨gb129, 3, none⟩) (Kd.R_far (p := ⟨gb129, 2, none⟩) (Kd.R_far (p := ⟨gb129, 1, none⟩) (Kd.R_far (p := ⟨gb129, 0, none⟩) (Kd.R_mono HO_10.out (fun k_ hk => (⟨hk, hk.2⟩ : _ ∧ k_ ≠ gb129))) (fun _ hk => hk.2) (.string ((rd_T94 x10_5 x11_5).f0))) (fun _ hk => hk.2) (.string ((rd_T94 x10_5 x11_5).f1))) (fun _ hk => hk.2) (.bool ((rd_T94 x10_5 x11_5).f2))) (fun _ hk => hk.2) (.bool ((rd_T94 x10_5 x11_5).f3))) (fun _ hk => ⟨hk.1.1, hk.1.2⟩)⟩, ⟨by (with_reducible repeat (first | refine blk_drewN ?_ _ | refine blk_drew ?_ | refine blk_alloc ?_ _)); refine blk_far ?_ NB115_129.out _; (with_reducible repeat (first | refine blk_drewN ?_ _ | refine blk_drew ?_ | refine blk_alloc ?_ _)); refine blk_far ?_ NB115_129.out _; (with_reducible repeat (first | refine blk_drewN ?_ _ | refine blk_drew ?_ | refine blk_alloc ?_ _)); refine blk_far ?_ NB115_129.out _; (with_reducible repeat (first | refine blk_drewN ?_ _ | refine blk_drew ?_ | refine blk_alloc ?_ _)); refine blk_far ?_ NB115_129.out _; (with_reducible repeat (first | refine blk_drewN ?_ _ | refine blk_drew ?_ | refine blk_alloc ?_ _)); exact BK115.out⟩, ⟨by (with_reducible repeat (first | refine blk_drewN ?_ _ | refine blk_drew ?_ | refine blk_alloc ?_ _)); refine blk_put (cs := #[.string ((rd_T94 x10_5 x11_5).f0), .string ((rd_T94 x10_5 x11_5).f1), .bool ((rd_T94 x10_5 x11_5).f2), .bool false]) ?_ 3 _ rfl; (with_reducible repeat (first | refine blk_drewN ?_ _ | refine blk_drew ?_ | refine blk_alloc ?_ _)); refine blk_put (cs := #[.string ((rd_T94 x10_5 x11_5).f0), .string ((rd_T94 x10_5 x11_5).f1), .bool false, .bool false]) ?_ 2 _ rfl; (with_reducible repeat (first | refine blk_drewN ?_ _ | refine blk_drew ?_ | refine blk_alloc ?_ _)); refine blk_put (cs := #[.string ((rd_T94 x10_5 x11_5).f0), .string (⟨#[]⟩ : ByteArray), .bool false, .bool false]) ?_ 1 _ rfl; (with_reducible repeat (first | refine blk_drewN ?_ _ | refine blk_drew ?_ | refine blk_alloc ?_ _)); refine blk_put (cs := #[.string (⟨#[]⟩ : ByteArray), .string (⟨#[]⟩ : ByteArray), .bool false, .bool false]) ?_ 0 _ rfl; (with_reducible repeat (first | refine blk_drewN ?_ _ | refine blk_drew ?_ | refine blk_alloc ?_ _)); exact BK129.out⟩, ⟨by repeat (first | (with_reducible first | exact HB.out | apply below_alloc | apply pw_below_drewN | apply below_drew1 | refine below_set ?_ GE115.out | refine below_set ?_ GE129.out) | exact HB.out)⟩⟩
                ·rw [if_neg c47] at H
                 have c47b0 : decide (0 < x7_2) = false := decide_eq_false c47
                 clear c47
                 have H' := Aside0.mk H
                 clear H
                 have hnb57 := NB115_129.out
                 have hnc57 := NB129_115.out
                 have hcz58_0 : w43.cell? ⟨gb115, 0, none⟩ = some (.int .i64 a1_0) := (blk_cell BK115.out 0).trans rfl
                 have hcz58_1 : w43.cell? ⟨gb115, 1, none⟩ = some (.int .i64 a1_1) := (blk_cell BK115.out 1).trans rfl
                 have hcz58_2 : w43.cell? ⟨gb115, 2, none⟩ = some (.int .i64 a1_2) := (blk_cell BK115.out 2).trans rfl
                 have hcz58_3 : w43.cell? ⟨gb115, 3, none⟩ = some (.slice A1_3 l1_3.length c1_3) := (blk_cell BK115.out 3).trans rfl
                 have hcz58_4 : w43.cell? ⟨gb115, 4, none⟩ = some (.slice A1_4 l1_4.length c1_4) := (blk_cell BK115.out 4).trans rfl
                 have hfz58_0 := blk_frozen BK115.out 0
                 have hfz58_1 := blk_frozen BK115.out 1
                 have hfz58_2 := blk_frozen BK115.out 2
                 have hfz58_3 := blk_frozen BK115.out 3
                 have hfz58_4 := blk_frozen BK115.out 4
                 go_wp2
                 go_meet
                 case rel => exact ⟨_, (false), (by first | rfl | (simp; done) | (simp [*]; done)), H', ⟨by have := HJ2.out; have := HJ7.out; have := HJ11.out; have := HJ17.out; have := HK5.out; first | omega | exact Nat.le_refl _⟩, ⟨by (with_reducible repeat (first | apply Kd.R_alloc | apply Kd.R_drewN | apply Kd.R_drew)); exact Kd.R_mono (Kd.R_far (p := ⟨gb129, 3, none⟩) (Kd.R_far (p := ⟨gb129, 2, none⟩) (Kd.R_far (p := ⟨gb129, 1, none⟩) (Kd.R_far (p := ⟨gb129, 0, none⟩) (Kd.R_mono HO_10.out (fun k_ hk => (⟨hk, hk.2⟩ : _ ∧ k_ ≠ gb129))) (fun _ hk => hk.2) (.string ((rd_T94 x10_5 x11_5).f0))) (fun _ hk => hk.2) (.string ((rd_T94 x10_5 x11_5).f1))) (fun _ hk => hk.2) (.bool ((rd_T94 x10_5 x11_5).f2))) (fun _ hk => hk.2) (.bool ((rd_T94 x10_5 x11_5).f3))) (fun _ hk => ⟨hk.1.1, hk.1.2⟩)⟩, ⟨by (with_reducible repeat (first | refine blk_drewN ?_ _ | refine blk_drew ?_ | refine blk_alloc ?_ _)); refine blk_far ?_ NB115_129.out _; (with_reducible repeat (first | refine blk_drewN ?_ _ | refine blk_drew ?_ | refine blk_alloc ?_ _)); refine blk_far ?_ NB115_129.out _; (with_reducible repeat (first | refine blk_drewN ?_ _ | refine blk_drew ?_ | refine blk_alloc ?_ _)); refine blk_far ?_ NB115_129.out _; (with_reducible repeat (first | refine blk_drewN ?_ _ | refine blk_drew ?_ | refine blk_alloc ?_ _)); refine blk_far ?_ NB115_129.out _; (with_reducible repeat (first | refine blk_drewN ?_ _ | refine blk_drew ?_ | refine blk_alloc ?_ _)); exact BK115.out⟩, ⟨by (with_reducible repeat (first | refine blk_drewN ?_ _ | refine blk_drew ?_ | refine blk_alloc ?_ _)); refine blk_put (cs := #[.string ((rd_T94 x10_5 x11_5).f0), .string ((rd_T94 x10_5 x11_5).f1), .bool ((rd_T94 x10_5 x11_5).f2), .bool false]) ?_ 3 _ rfl; (with_reducible repeat (first | refine blk_drewN ?_ _ | refine blk_drew ?_ | refine blk_alloc ?_ _)); refine blk_put (cs := #[.string ((rd_T94 x10_5 x11_5).f0), .string ((rd_T94 x10_5 x11_5).f1), .bool false, .bool false]) ?_ 2 _ rfl; (with_reducible repeat (first | refine blk_drewN ?_ _ | refine blk_drew ?_ | refine blk_alloc ?_ _)); refine blk_put (cs := #[.string ((rd_T94 x10_5 x11_5).f0), .string (⟨#[]⟩ : ByteArray), .bool false, .bool false]) ?_ 1 _ rfl; (with_reducible repeat (first | refine blk_drewN ?_ _ | refine blk_drew ?_ | refine blk_alloc ?_ _)); refine blk_put (cs := #[.string (⟨#[]⟩ : ByteArray), .string (⟨#[]⟩ : ByteArray), .bool false, .bool false]) ?_ 0 _ rfl; (with_reducible repeat (first | refine blk_drewN ?_ _ | refine blk_drew ?_ | refine blk_alloc ?_ _)); exact BK129.out⟩, ⟨by repeat (first | (with_reducible first | exact HB.out | apply below_alloc | apply pw_below_drewN | apply below_drew1 | refine below_set ?_ GE115.out | refine below_set ?_ GE129.out) | exact HB.out)⟩⟩
               ·rw [if_neg c46] at H
                have c46b0 : (a1_0 == 2) = false := beq_eq_false_iff_ne.mpr c46
                have c46b1 : (a1_0 != 2) = true := bne_iff_ne.mpr c46
                (first | rw [c46b0] | (simp only [i64_w, i32_w]; rw [c46b0]) | skip)
                have H' := Aside0.mk H
                clear H
                have hnb59 := NB115_129.out
                have hnc59 := NB129_115.out
                have hcz60_0 : w43.cell? ⟨gb115, 0, none⟩ = some (.int .i64 a1_0) := (blk_cell BK115.out 0).trans rfl
                have hcz60_1 : w43.cell? ⟨gb115, 1, none⟩ = some (.int .i64 a1_1) := (blk_cell BK115.out 1).trans rfl
                have hcz60_2 : w43.cell? ⟨gb115, 2, none⟩ = some (.int .i64 a1_2) := (blk_cell BK115.out 2).trans rfl
                have hcz60_3 : w43.cell? ⟨gb115, 3, none⟩ = some (.slice A1_3 l1_3.length c1_3) := (blk_cell BK115.out 3).trans rfl
                have hcz60_4 : w43.cell? ⟨gb115, 4, none⟩ = some (.slice A1_4 l1_4.length c1_4) := (blk_cell BK115.out 4).trans rfl
                have hfz60_0 := blk_frozen BK115.out 0
                have hfz60_1 := blk_frozen BK115.out 1
                have hfz60_2 := blk_frozen BK115.out 2
                have hfz60_3 := blk_frozen BK115.out 3
                have hfz60_4 := blk_frozen BK115.out 4
                go_wp2
                go_meet
                case rel => exact ⟨_, (false), (by first | rfl | (simp; done) | (simp [*]; done)), H', ⟨by have := HJ2.out; have := HJ7.out; have := HJ11.out; have := HJ17.out; have := HK5.out; first | omega | exact Nat.le_refl _⟩, ⟨by (with_reducible repeat (first | apply Kd.R_alloc | apply Kd.R_drewN | apply Kd.R_drew)); exact Kd.R_mono (Kd.R_far (p := ⟨gb129, 3, none⟩) (Kd.R_far (p := ⟨gb129, 2, none⟩) (Kd.R_far (p := ⟨gb129, 1, none⟩) (Kd.R_far (p := ⟨gb129, 0, none⟩) (Kd.R_mono HO_10.out (fun k_ hk => (⟨hk, hk.2⟩ : _ ∧ k_ ≠ gb129))) (fun _ hk => hk.2) (.string ((rd_T94 x10_5 x11_5).f0))) (fun _ hk => hk.2) (.string ((rd_T94 x10_5 x11_5).f1))) (fun _ hk => hk.2) (.bool ((rd_T94 x10_5 x11_5).f2))) (fun _ hk => hk.2) (.bool ((rd_T94 x10_5 x11_5).f3))) (fun _ hk => ⟨hk.1.1, hk.1.2⟩)⟩, ⟨by (with_reducible repeat (first | refine blk_drewN ?_ _ | refine blk_drew ?_ | refine blk_alloc ?_ _)); refine blk_far ?_ NB115_129.out _; (with_reducible repeat (first | refine blk_drewN ?_ _ | refine blk_drew ?_ | refine blk_alloc ?_ _)); refine blk_far ?_ NB115_129.out _; (with_reducible repeat (first | refine blk_drewN ?_ _ | refine blk_drew ?_ | refine blk_alloc ?_ _)); refine blk_far ?_ NB115_129.out _; (with_reducible repeat (first | refine blk_drewN ?_ _ | refine blk_drew ?_ | refine blk_alloc ?_ _)); refine blk_far ?_ NB115_129.out _; (with_reducible repeat (first | refine blk_drewN ?_ _ | refine blk_drew ?_ | refine blk_alloc ?_ _)); exact BK115.out⟩, ⟨by (with_reducible repeat (first | refine blk_drewN ?_ _ | refine blk_drew ?_ | refine blk_alloc ?_ _)); refine blk_put (cs := #[.string ((rd_T94 x10_5 x11_5).f0), .string ((rd_T94 x10_5 x11_5).f1), .bool ((rd_T94 x10_5 x11_5).f2), .bool false]) ?_ 3 _ rfl; (with_reducible repeat (first | refine blk_drewN ?_ _ | refine blk_drew ?_ | refine blk_alloc ?_ _)); refine blk_put (cs := #[.string ((rd_T94 x10_5 x11_5).f0), .string ((rd_T94 x10_5 x11_5).f1), .bool false, .bool false]) ?_ 2 _ rfl; (with_reducible repeat (first | refine blk_drewN ?_ _ | refine blk_drew ?_ | refine blk_alloc ?_ _)); refine blk_put (cs := #[.string ((rd_T94 x10_5 x11_5).f0), .string (⟨#[]⟩ : ByteArray), .bool false, .bool false]) ?_ 1 _ rfl; (with_reducible repeat (first | refine blk_drewN ?_ _ | refine blk_drew ?_ | refine blk_alloc ?_ _)); refine blk_put (cs := #[.string (⟨#[]⟩ : ByteArray), .string (⟨#[]⟩ : ByteArray), .bool false, .bool false]) ?_ 0 _ rfl; (with_reducible repeat (first | refine blk_drewN ?_ _ | refine blk_drew ?_ | refine blk_alloc ?_ _)); exact BK129.out⟩, ⟨by repeat (first | (with_reducible first | exact HB.out | apply below_alloc | apply pw_below_drewN | apply below_drew1 | refine below_set ?_ GE115.out | refine below_set ?_ GE129.out) | exact HB.out)⟩⟩
              case rest =>
               clear HC41
               try clear c1
               try clear p1
               try clear q1
               try clear hx1
               try clear c2
               try clear p2
               try clear c3
               try clear c4
               try clear c5
               try clear c6
               try clear c6b0
               try clear c6b1
               try clear p6
               try clear c9
               try clear c9b0
               try clear p11
               try clear q11
               try clear hx11
               try clear p12
               try clear q12
               try clear hx12
               try clear c13
               try clear c15
               try clear c15b0
               try clear c15b1
               try clear c20
               try clear c20b0
               try clear c20b1
               try clear c21
               try clear c21b0
               try clear c22
               try clear c22b0
               try clear c23
               try clear c23b0
               try clear c27
               try clear c28
               try clear c28b0
               try clear c28b1
               try clear c30
               try clear c30b0
               try clear c30b1
               try clear c31
               try clear c31b0
               try clear c31b1
               try clear c32
               try clear c32b0
               try clear c32b1
               try clear c34
               try clear c39
               try clear c39b0
               try clear c40
               try clear c40b0
               try clear c44
               try clear c46
               try clear c46b0
               try clear c46b1
               try clear c47
               try clear c47b0
               try clear c48
               try clear c48b0
               try clear c49
               try clear c49b0
               try clear c50
               try clear c53
               try clear c55
               try clear c57
               try clear c59
               try clear hcz10_0
               try clear hcz10_1
               try clear hcz10_2
               try clear hcz10_3
               try clear hcz10_4
               try clear hcz11_0
               try clear hcz11_1
               try clear hcz11_2
               try clear hcz11_3
               try clear hcz11_4
               try clear hcz16_0
               try clear hcz16_1
               try clear hcz16_2
               try clear hcz16_3
               try clear hcz16_4
               try clear hcz17_0
               try clear hcz17_1
               try clear hcz17_2
               try clear hcz17_3
               try clear hcz17_4
               try clear hcz19_0
               try clear hcz19_1
               try clear hcz19_2
               try clear hcz19_3
               try clear hcz19_4
               try clear hcz45_0
               try clear hcz45_1
               try clear hcz45_2
               try clear hcz45_3
               try clear hcz51_0
               try clear hcz51_1
               try clear hcz51_2
               try clear hcz51_3
               try clear hcz51_4
               try clear hcz52_0
               try clear hcz52_1
               try clear hcz52_2
               try clear hcz52_3
               try clear hcz54_0
               try clear hcz54_1
               try clear hcz54_2
               try clear hcz54_3
               try clear hcz54_4
               try clear hcz56_0
               try clear hcz56_1
               try clear hcz56_2
               try clear hcz56_3
               try clear hcz56_4
               try clear hcz58_0
               try clear hcz58_1
               try clear hcz58_2
               try clear hcz58_3
               try clear hcz58_4
               try clear hcz5_0
               try clear hcz5_1
               try clear hcz5_2
               try clear hcz5_3
               try clear hcz5_4
               try clear hcz60_0
               try clear hcz60_1
               try clear hcz60_2
               try clear hcz60_3
               try clear hcz60_4
               try clear hcz7_0
               try clear hcz7_1
               try clear hcz7_2
               try clear hcz7_3
               try clear hcz7_4
               try clear hfz10_0
               try clear hfz10_1
               try clear hfz10_2
               try clear hfz10_3
               try clear hfz10_4
               try clear hfz11_0
               try clear hfz11_1
               try clear hfz11_2
               try clear hfz11_3
               try clear hfz11_4
               try clear hfz16_0
               try clear hfz16_1
               try clear hfz16_2
               try clear hfz16_3
               try clear hfz16_4
               try clear hfz17_0
               try clear hfz17_1
               try clear hfz17_2
               try clear hfz17_3
               try clear hfz17_4
               try clear hfz19_0
               try clear hfz19_1
               try clear hfz19_2
               try clear hfz19_3
               try clear hfz19_4
               try clear hfz45_0
               try clear hfz45_1
               try clear hfz45_2
               try clear hfz45_3
               try clear hfz51_0
               try clear hfz51_1
               try clear hfz51_2
               try clear hfz51_3
               try clear hfz51_4
               try clear hfz52_0
               try clear hfz52_1
               try clear hfz52_2
               try clear hfz52_3
               try clear hfz54_0
               try clear hfz54_1
               try clear hfz54_2
               try clear hfz54_3
               try clear hfz54_4
               try clear hfz56_0
               try clear hfz56_1
               try clear hfz56_2
               try clear hfz56_3
               try clear hfz56_4
               try clear hfz58_0
               try clear hfz58_1
               try clear hfz58_2
               try clear hfz58_3
               try clear hfz58_4
               try clear hfz5_0
               try clear hfz5_1
               try clear hfz5_2
               try clear hfz5_3
               try clear hfz5_4
               try clear hfz60_0
               try clear hfz60_1
               try clear hfz60_2
               try clear hfz60_3
               try clear hfz60_4
               try clear hfz7_0
               try clear hfz7_1
               try clear hfz7_2
               try clear hfz7_3
               try clear hfz7_4
               try clear hx117_0
               try clear hx128_0
               try clear hx128_1
               try clear hx128_2
               try clear hx128_3
               try clear p1
               try clear p11
               try clear p117
               try clear p128
               try clear p2
               try clear p6
               try clear q1
               try clear q11
               try clear q117
               try clear q128
               obtain ⟨kq, x110_40, rfl, HA, HJ40, HO_10, BK115, BK129, HB⟩ := hcut
               cases kq with
               | zero => exact absurd HA.out (by simp [ecdysisref03_Do.j6])
               | succ kj40 =>
                have H := HA.out
                clear HA
                simp only [ecdysisref03_Do.j6] at H
                have HC61 := Aside0.mk H
                clear H
                go_upto_if 110 with (fail)
                go_cut [] (fun wc => ∃ (kq : Nat) (x130003_60 : Bool), Aside0 (ecdysisref03_Do.j7 kq x7_2 x10_5 x11_5 a1_0 a1_1 a1_2 l1_3 l1_4 ((rd_T94 x10_5 x11_5).f0) ((rd_T94 x10_5 x11_5).f1) ((rd_T94 x10_5 x11_5).f2) x130003_60 = some (r1, r2, r3)) ∧ Aside0 (kq ≤ kj40) ∧ Aside0 (Kd.R k94 94 wc w.heap.size (fun k_ => (w.heap.size ≤ k_) ∧ k_ ≠ gb129) (.slice (some ad128) x10_5.length co42) x10_5) ∧ Aside0 (wc.heap[gb115]? = some (.cells #[.int .i64 a1_0, .int .i64 a1_1, .int .i64 a1_2, (.slice A1_3 l1_3.length c1_3), (.slice A1_4 l1_4.length c1_4)] 54 (0, 0))) ∧ Aside0 (wc.heap[gb129]? = some (.cells #[.string ((rd_T94 x10_5 x11_5).f0), .string ((rd_T94 x10_5 x11_5).f1), .bool ((rd_T94 x10_5 x11_5).f2), .bool x130003_60] 94 (0, 0))) ∧ Aside0 (Below w.heap.size w wc))
                case first =>
                 have H := HC61.out
                 clear HC61
                 by_cases c62 : x110_40 = true
                 ·subst c62
                  have H1 : (ecdysisref03_Do.j7 kj40 x7_2 x10_5 x11_5 a1_0 a1_1 a1_2 l1_3 l1_4 ((rd_T94 x10_5 x11_5).f0) ((rd_T94 x10_5 x11_5).f1) ((rd_T94 x10_5 x11_5).f2) true) = some (r1, r2, r3) := by rw [if_pos rfl] at H; exact H
                  clear H
                  have H := H1
                  clear H1
                  have H' := Aside0.mk H
                  clear H
                  have hnb63 := NB129_115.out
                  have hnc63 := NB115_129.out
                  have hcz64_0 : wc.cell? ⟨gb129, 0, none⟩ = some (.string ((rd_T94 x10_5 x11_5).f0)) := (blk_cell BK129.out 0).trans rfl
                  have hcz64_1 : wc.cell? ⟨gb129, 1, none⟩ = some (.string ((rd_T94 x10_5 x11_5).f1)) := (blk_cell BK129.out 1).trans rfl
                  have hcz64_2 : wc.cell? ⟨gb129, 2, none⟩ = some (.bool ((rd_T94 x10_5 x11_5).f2)) := (blk_cell BK129.out 2).trans rfl
                  have hcz64_3 : wc.cell? ⟨gb129, 3, none⟩ = some (.bool ((rd_T94 x10_5 x11_5).f3)) := (blk_cell BK129.out 3).trans rfl
                  have hfz64_0 := blk_frozen BK129.out 0
                  have hfz64_1 := blk_frozen BK129.out 1
                  have hfz64_2 := blk_frozen BK129.out 2
                  have hfz64_3 := blk_frozen BK129.out 3
                  go_wp2
                  go_meet
                  case rel => exact ⟨_, (true), H', ⟨by have := HJ2.out; have := HJ7.out; have := HJ11.out; have := HJ17.out; have := HK5.out; have := HJ40.out; first | omega | exact Nat.le_refl _⟩, ⟨by (with_reducible repeat (first | apply Kd.R_alloc | apply Kd.R_drewN | apply Kd.R_drew)); exact Kd.R_mono (Kd.R_far (p := ⟨gb129, 3, none⟩) (Kd.R_mono HO_10.out (fun k_ hk => (⟨hk, hk.2⟩ : _ ∧ k_ ≠ gb129))) (fun _ hk => hk.2) (.bool true)) (fun _ hk => ⟨hk.1.1, hk.1.2⟩)⟩, ⟨by (with_reducible repeat (first | refine blk_drewN ?_ _ | refine blk_drew ?_ | refine blk_alloc ?_ _)); refine blk_far ?_ NB115_129.out _; (with_reducible repeat (first | refine blk_drewN ?_ _ | refine blk_drew ?_ | refine blk_alloc ?_ _)); exact BK115.out⟩, ⟨by (with_reducible repeat (first | refine blk_drewN ?_ _ | refine blk_drew ?_ | refine blk_alloc ?_ _)); refine blk_put (cs := #[.string ((rd_T94 x10_5 x11_5).f0), .string ((rd_T94 x10_5 x11_5).f1), .bool ((rd_T94 x10_5 x11_5).f2), .bool ((rd_T94 x10_5 x11_5).f3)]) ?_ 3 _ rfl; (with_reducible repeat (first | refine blk_drewN ?_ _ | refine blk_drew ?_ | refine blk_alloc ?_ _)); exact BK129.out⟩, ⟨by repeat (first | (with_reducible first | exact HB.out | apply below_alloc | apply pw_below_drewN | apply below_drew1 | refine below_set ?_ GE115.out | refine below_set ?_ GE129.out) | exact HB.out)⟩⟩
                 ·replace c62 := Bool.eq_false_iff.mpr c62
                  subst c62
                  have H1 : (ecdysisref03_Do.j7 kj40 x7_2 x10_5 x11_5 a1_0 a1_1 a1_2 l1_3 l1_4 ((rd_T94 x10_5 x11_5).f0) ((rd_T94 x10_5 x11_5).f1) ((rd_T94 x10_5 x11_5).f2) ((rd_T94 x10_5 x11_5).f3)) = some (r1, r2, r3) := by rw [if_neg (show ¬ (false = true) by decide)] at H; exact H
                  clear H
                  have H := H1
                  clear H1
                  have H' := Aside0.mk H
                  clear H
                  go_wp2
                  go_meet
                  case rel => exact ⟨_, (((rd_T94 x10_5 x11_5).f3)), H', ⟨by have := HJ2.out; have := HJ7.out; have := HJ11.out; have := HJ17.out; have := HK5.out; have := HJ40.out; first | omega | exact Nat.le_refl _⟩, ⟨by (with_reducible repeat (first | apply Kd.R_alloc | apply Kd.R_drewN | apply Kd.R_drew)); exact HO_10.out⟩, ⟨by (with_reducible repeat (first | refine blk_drewN ?_ _ | refine blk_drew ?_ | refine blk_alloc ?_ _)); exact BK115.out⟩, ⟨by (with_reducible repeat (first | refine blk_drewN ?_ _ | refine blk_drew ?_ | refine blk_alloc ?_ _)); exact BK129.out⟩, ⟨by repeat (first | (with_reducible first | exact HB.out | apply below_alloc | apply pw_below_drewN | apply below_drew1 | refine below_set ?_ GE115.out | refine below_set ?_ GE129.out) | exact HB.out)⟩⟩
                case rest =>
                 clear HC61
                 try clear c1
                 try clear p1
                 try clear q1
                 try clear hx1
                 try clear c2
                 try clear p2
                 try clear c3
                 try clear c4
                 try clear c5
                 try clear c6
                 try clear c6b0
                 try clear c6b1
                 try clear p6
                 try clear c9
                 try clear c9b0
                 try clear p11
                 try clear q11
                 try clear hx11
                 try clear p12
                 try clear q12
                 try clear hx12
                 try clear c13
                 try clear c15
                 try clear c15b0
                 try clear c15b1
                 try clear c20
                 try clear c20b0
                 try clear c20b1
                 try clear c21
                 try clear c21b0
                 try clear c22
                 try clear c22b0
                 try clear c23
                 try clear c23b0
                 try clear c27
                 try clear c28
                 try clear c28b0
                 try clear c28b1
                 try clear c30
                 try clear c30b0
                 try clear c30b1
                 try clear c31
                 try clear c31b0
                 try clear c31b1
                 try clear c32
                 try clear c32b0
                 try clear c32b1
                 try clear c34
                 try clear c39
                 try clear c39b0
                 try clear c40
                 try clear c40b0
                 try clear c44
                 try clear c46
                 try clear c46b0
                 try clear c46b1
                 try clear c47
                 try clear c47b0
                 try clear c48
                 try clear c48b0
                 try clear c49
                 try clear c49b0
                 try clear c50
                 try clear c53
                 try clear c55
                 try clear c57
                 try clear c59
                 try clear c62
                 try clear c63
                 try clear p64
                 try clear hcz10_0
                 try clear hcz10_1
                 try clear hcz10_2
                 try clear hcz10_3
                 try clear hcz10_4
                 try clear hcz11_0
                 try clear hcz11_1
                 try clear hcz11_2
                 try clear hcz11_3
                 try clear hcz11_4
                 try clear hcz16_0
                 try clear hcz16_1
                 try clear hcz16_2
                 try clear hcz16_3
                 try clear hcz16_4
                 try clear hcz17_0
                 try clear hcz17_1
                 try clear hcz17_2
                 try clear hcz17_3
                 try clear hcz17_4
                 try clear hcz19_0
                 try clear hcz19_1
                 try clear hcz19_2
                 try clear hcz19_3
                 try clear hcz19_4
                 try clear hcz45_0
                 try clear hcz45_1
                 try clear hcz45_2
                 try clear hcz45_3
                 try clear hcz51_0
                 try clear hcz51_1
                 try clear hcz51_2
                 try clear hcz51_3
                 try clear hcz51_4
                 try clear hcz52_0
                 try clear hcz52_1
                 try clear hcz52_2
                 try clear hcz52_3
                 try clear hcz54_0
                 try clear hcz54_1
                 try clear hcz54_2
                 try clear hcz54_3
                 try clear hcz54_4
                 try clear hcz56_0
                 try clear hcz56_1
                 try clear hcz56_2
                 try clear hcz56_3
                 try clear hcz56_4
                 try clear hcz58_0
                 try clear hcz58_1
                 try clear hcz58_2
                 try clear hcz58_3
                 try clear hcz58_4
                 try clear hcz5_0
                 try clear hcz5_1
                 try clear hcz5_2
                 try clear hcz5_3
                 try clear hcz5_4
                 try clear hcz60_0
                 try clear hcz60_1
                 try clear hcz60_2
                 try clear hcz60_3
                 try clear hcz60_4
                 try clear hcz64_0
                 try clear hcz64_1
                 try clear hcz64_2
                 try clear hcz64_3
                 try clear hcz7_0
                 try clear hcz7_1
                 try clear hcz7_2
                 try clear hcz7_3
                 try clear hcz7_4
                 try clear hfz10_0
                 try clear hfz10_1
                 try clear hfz10_2
                 try clear hfz10_3
                 try clear hfz10_4
                 try clear hfz11_0
                 try clear hfz11_1
                 try clear hfz11_2
                 try clear hfz11_3
                 try clear hfz11_4
                 try clear hfz16_0
                 try clear hfz16_1
                 try clear hfz16_2
                 try clear hfz16_3
                 try clear hfz16_4
                 try clear hfz17_0
                 try clear hfz17_1
                 try clear hfz17_2
                 try clear hfz17_3
                 try clear hfz17_4
                 try clear hfz19_0
                 try clear hfz19_1
                 try clear hfz19_2
                 try clear hfz19_3
                 try clear hfz19_4
                 try clear hfz45_0
                 try clear hfz45_1
                 try clear hfz45_2
                 try clear hfz45_3
                 try clear hfz51_0
                 try clear hfz51_1
                 try clear hfz51_2
                 try clear hfz51_3
                 try clear hfz51_4
                 try clear hfz52_0
                 try clear hfz52_1
                 try clear hfz52_2
                 try clear hfz52_3
                 try clear hfz54_0
                 try clear hfz54_1
                 try clear hfz54_2
                 try clear hfz54_3
                 try clear hfz54_4
                 try clear hfz56_0
                 try clear hfz56_1
                 try clear hfz56_2
                 try clear hfz56_3
                 try clear hfz56_4
                 try clear hfz58_0
                 try clear hfz58_1
                 try clear hfz58_2
                 try clear hfz58_3
                 try clear hfz58_4
                 try clear hfz5_0
                 try clear hfz5_1
                 try clear hfz5_2
                 try clear hfz5_3
                 try clear hfz5_4
                 try clear hfz60_0
                 try clear hfz60_1
                 try clear hfz60_2
                 try clear hfz60_3
                 try clear hfz60_4
                 try clear hfz64_0
                 try clear hfz64_1
                 try clear hfz64_2
                 try clear hfz64_3
                 try clear hfz7_0
                 try clear hfz7_1
                 try clear hfz7_2
                 try clear hfz7_3
                 try clear hfz7_4
                 try clear hx117_0
                 try clear hx128_0
                 try clear hx128_1
                 try clear hx128_2
                 try clear hx128_3
                 try clear p1
                 try clear p11
                 try clear p117
                 try clear p12
                 try clear p128
                 try clear p2
                 try clear p6
                 try clear q1
                 try clear q11
                 try clear q117
                 try clear q12
                 try clear q128
                 obtain ⟨kq, x130003_60, HA, HJ60, HO_10, BK115, BK129, HB⟩ := hcut
                 cases kq with
                 | zero => exact absurd HA.out (by simp [ecdysisref03_Do.j7])
                 | succ kj60 =>
                  have H := HA.out
                  clear HA
                  simp only [ecdysisref03_Do.j7] at H
                  have HC65 := Aside0.mk H
                  clear H
                  go_upto_region 23 with (fail)
                  go_cut [118] (fun v118 wc => ∃ (kq : Nat) (x118_64 : Bool), v118 = .bool x118_64 ∧ Aside0 (ecdysisref03_Do.j8 kq x7_2 x10_5 x11_5 x118_64 a1_0 a1_1 a1_2 l1_3 l1_4 ((rd_T94 x10_5 x11_5).f0) ((rd_T94 x10_5 x11_5).f1) ((rd_T94 x10_5 x11_5).f2) x130003_60 = some (r1, r2, r3)) ∧ Aside0 (kq ≤ kj60) ∧ Aside0 (Kd.R k94 94 wc w.heap.size (fun k_ => (w.heap.size ≤ k_) ∧ k_ ≠ gb129) (.slice (some ad128) x10_5.length co42) x10_5) ∧ Aside0 (wc.heap[gb115]? = some (.cells #[.int .i64 a1_0, .int .i64 a1_1, .int .i64 a1_2, (.slice A1_3 l1_3.length c1_3), (.slice A1_4 l1_4.length c1_4)] 54 (0, 0))) ∧ Aside0 (wc.heap[gb129]? = some (.cells #[.string ((rd_T94 x10_5 x11_5).f0), .string ((rd_T94 x10_5 x11_5).f1), .bool ((rd_T94 x10_5 x11_5).f2), .bool x130003_60] 94 (0, 0))) ∧ Aside0 (Below w.heap.size w wc))
                  case first =>
                   have H := HC65.out
                   clear HC65
                   by_cases c66 : a1_0 = 3
                   ·rw [if_pos c66] at H
                    have c66b0 : (a1_0 == 3) = true := beq_iff_eq.mpr c66
                    have c66b1 : (a1_0 != 3) = false := bne_eq_false_iff_eq.mpr c66
                    clear c66
                    (first | rw [c66b0] | (simp only [i64_w, i32_w]; rw [c66b0]) | skip)
                    have H' := Aside0.mk H
                    clear H
                    have hnb67 := NB115_129.out
                    have hnc67 := NB129_115.out
                    have hcz68_0 : wc.cell? ⟨gb115, 0, none⟩ = some (.int .i64 a1_0) := (blk_cell BK115.out 0).trans rfl
                    have hcz68_1 : wc.cell? ⟨gb115, 1, none⟩ = some (.int .i64 a1_1) := (blk_cell BK115.out 1).trans rfl
                    have hcz68_2 : wc.cell? ⟨gb115, 2, none⟩ = some (.int .i64 a1_2) := (blk_cell BK115.out 2).trans rfl
                    have hcz68_3 : wc.cell? ⟨gb115, 3, none⟩ = some (.slice A1_3 l1_3.length c1_3) := (blk_cell BK115.out 3).trans rfl
                    have hcz68_4 : wc.cell? ⟨gb115, 4, none⟩ = some (.slice A1_4 l1_4.length c1_4) := (blk_cell BK115.out 4).trans rfl
                    have hfz68_0 := blk_frozen BK115.out 0
                    have hfz68_1 := blk_frozen BK115.out 1
                    have hfz68_2 := blk_frozen BK115.out 2
                    have hfz68_3 := blk_frozen BK115.out 3
                    have hfz68_4 := blk_frozen BK115.out 4
                    have hcz69_0 : wc.cell? ⟨gb129, 0, none⟩ = some (.string ((rd_T94 x10_5 x11_5).f0)) := (blk_cell BK129.out 0).trans rfl
                    have hcz69_1 : wc.cell? ⟨gb129, 1, none⟩ = some (.string ((rd_T94 x10_5 x11_5).f1)) := (blk_cell BK129.out 1).trans rfl
                    have hcz69_2 : wc.cell? ⟨gb129, 2, none⟩ = some (.bool ((rd_T94 x10_5 x11_5).f2)) := (blk_cell BK129.out 2).trans rfl
                    have hcz69_3 : wc.cell? ⟨gb129, 3, none⟩ = some (.bool x130003_60) := (blk_cell BK129.out 3).trans rfl
                    have hfz69_0 := blk_frozen BK129.out 0
                    have hfz69_1 := blk_frozen BK129.out 1
                    have hfz69_2 := blk_frozen BK129.out 2
                    have hfz69_3 := blk_frozen BK129.out 3
                    go_wp2
                    go_meet
                    case rel => exact ⟨_, (x130003_60), (by first | rfl | (simp; done) | (simp [*]; done)), H', ⟨by have := HJ2.out; have := HJ7.out; have := HJ11.out; have := HJ17.out; have := HK5.out; have := HJ40.out; have := HJ60.out; first | omega | exact Nat.le_refl _⟩, ⟨by (with_reducible repeat (first | apply Kd.R_alloc | apply Kd.R_drewN | apply Kd.R_drew)); exact HO_10.out⟩, ⟨by (with_reducible repeat (first | refine blk_drewN ?_ _ | refine blk_drew ?_ | refine blk_alloc ?_ _)); exact BK115.out⟩, ⟨by (with_reducible repeat (first | refine blk_drewN ?_ _ | refine blk_drew ?_ | refine blk_alloc ?_ _)); exact BK129.out⟩, ⟨by repeat (first | (with_reducible first | exact HB.out | apply below_alloc | apply pw_below_drewN | apply below_drew1 | refine below_set ?_ GE115.out | refine below_set ?_ GE129.out) | exact HB.out)⟩⟩
                   ·rw [if_neg c66] at H
                    have c66b0 : (a1_0 == 3) = false := beq_eq_false_iff_ne.mpr c66
                    have c66b1 : (a1_0 != 3) = true := bne_iff_ne.mpr c66
                    (first | rw [c66b0] | (simp only [i64_w, i32_w]; rw [c66b0]) | skip)
                    have H' := Aside0.mk H
                    clear H
                    have hnb70 := NB115_129.out
                    have hnc70 := NB129_115.out
                    have hcz71_0 : wc.cell? ⟨gb115, 0, none⟩ = some (.int .i64 a1_0) := (blk_cell BK115.out 0).trans rfl
                    have hcz71_1 : wc.cell? ⟨gb115, 1, none⟩ = some (.int .i64 a1_1) := (blk_cell BK115.out 1).trans rfl
                    have hcz71_2 : wc.cell? ⟨gb115, 2, none⟩ = some (.int .i64 a1_2) := (blk_cell BK115.out 2).trans rfl
                    have hcz71_3 : wc.cell? ⟨gb115, 3, none⟩ = some (.slice A1_3 l1_3.length c1_3) := (blk_cell BK115.out 3).trans rfl
                    have hcz71_4 : wc.cell? ⟨gb115, 4, none⟩ = some (.slice A1_4 l1_4.length c1_4) := (blk_cell BK115.out 4).trans rfl
                    have hfz71_0 := blk_frozen BK115.out 0
                    have hfz71_1 := blk_frozen BK115.out 1
                    have hfz71_2 := blk_frozen BK115.out 2
                    have hfz71_3 := blk_frozen BK115.out 3
                    have hfz71_4 := blk_frozen BK115.out 4
                    go_wp2
                    go_meet
                    case rel => exact ⟨_, (false), (by first | rfl | (simp; done) | (simp [*]; done)), H', ⟨by have := HJ2.out; have := HJ7.out; have := HJ11.out; have := HJ17.out; have := HK5.out; have := HJ40.out; have := HJ60.out; first | omega | exact Nat.le_refl _⟩, ⟨by (with_reducible repeat (first | apply Kd.R_alloc | apply Kd.R_drewN | apply Kd.R_drew)); exact HO_10.out⟩, ⟨by (with_reducible repeat (first | refine blk_drewN ?_ _ | refine blk_drew ?_ | refine blk_alloc ?_ _)); exact BK115.out⟩, ⟨by (with_reducible repeat (first | refine blk_drewN ?_ _ | refine blk_drew ?_ | refine blk_alloc ?_ _)); exact BK129.out⟩, ⟨by repeat (first | (with_reducible first | exact HB.out | apply below_alloc | apply pw_below_drewN | apply below_drew1 | refine below_set ?_ GE115.out | refine below_set ?_ GE129.out) | exact HB.out)⟩⟩
                  case rest =>
                   clear HC65
                   try clear c1
                   try clear p1
                   try clear q1
                   try clear hx1
                   try clear c2
                   try clear p2
                   try clear c3
                   try clear c4
                   try clear c5
                   try clear c6
                   try clear c6b0
                   try clear c6b1
                   try clear p6
                   try clear c7
                   try clear c9
                   try clear c9b0
                   try clear p11
                   try clear q11
                   try clear hx11
                   try clear p12
                   try clear q12
                   try clear hx12
                   try clear c13
                   try clear c15
                   try clear c15b0
                   try clear c15b1
                   try clear c20
                   try clear c20b0
                   try clear c20b1
                   try clear c21
                   try clear c21b0
                   try clear c22
                   try clear c22b0
                   try clear c23
                   try clear c23b0
                   try clear c27
                   try clear c28
                   try clear c28b0
                   try clear c28b1
                   try clear c30
                   try clear c30b0
                   try clear c30b1
                   try clear c31
                   try clear c31b0
                   try clear c31b1
                   try clear c32
                   try clear c32b0
                   try clear c32b1
                   try clear c34
                   try clear c39
                   try clear c39b0
                   try clear c40
                   try clear c40b0
                   try clear c44
                   try clear c46
                   try clear c46b0
                   try clear c46b1
                   try clear c47
                   try clear c47b0
                   try clear c48
                   try clear c48b0
                   try clear c49
                   try clear c49b0
                   try clear c50
                   try clear c53
                   try clear c55
                   try clear c57
                   try clear c59
                   try clear c62
                   try clear c63
                   try clear p64
                   try clear c66
                   try clear c66b0
                   try clear c66b1
                   try clear c67
                   try clear c70
                   try clear hcz10_0
                   try clear hcz10_1
                   try clear hcz10_2
                   try clear hcz10_3
                   try clear hcz10_4
                   try clear hcz11_0
                   try clear hcz11_1
                   try clear hcz11_2
                   try clear hcz11_3
                   try clear hcz11_4
                   try clear hcz16_0
                   try clear hcz16_1
                   try clear hcz16_2
                   try clear hcz16_3
                   try clear hcz16_4
                   try clear hcz17_0
                   try clear hcz17_1
                   try clear hcz17_2
                   try clear hcz17_3
                   try clear hcz17_4
                   try clear hcz19_0
                   try clear hcz19_1
                   try clear hcz19_2
                   try clear hcz19_3
                   try clear hcz19_4
                   try clear hcz45_0
                   try clear hcz45_1
                   try clear hcz45_2
                   try clear hcz45_3
                   try clear hcz51_0
                   try clear hcz51_1
                   try clear hcz51_2
                   try clear hcz51_3
                   try clear hcz51_4
                   try clear hcz52_0
                   try clear hcz52_1
                   try clear hcz52_2
                   try clear hcz52_3
                   try clear hcz54_0
                   try clear hcz54_1
                   try clear hcz54_2
                   try clear hcz54_3
                   try clear hcz54_4
                   try clear hcz56_0
                   try clear hcz56_1
                   try clear hcz56_2
                   try clear hcz56_3
                   try clear hcz56_4
                   try clear hcz58_0
                   try clear hcz58_1
                   try clear hcz58_2
                   try clear hcz58_3
                   try clear hcz58_4
                   try clear hcz5_0
                   try clear hcz5_1
                   try clear hcz5_2
                   try clear hcz5_3
                   try clear hcz5_4
                   try clear hcz60_0
                   try clear hcz60_1
                   try clear hcz60_2
                   try clear hcz60_3
                   try clear hcz60_4
                   try clear hcz64_0
                   try clear hcz64_1
                   try clear hcz64_2
                   try clear hcz64_3
                   try clear hcz68_0
                   try clear hcz68_1
                   try clear hcz68_2
                   try clear hcz68_3
                   try clear hcz68_4
                   try clear hcz69_0
                   try clear hcz69_1
                   try clear hcz69_2
                   try clear hcz69_3
                   try clear hcz71_0
                   try clear hcz71_1
                   try clear hcz71_2
                   try clear hcz71_3
                   try clear hcz71_4
                   try clear hcz7_0
                   try clear hcz7_1
                   try clear hcz7_2
                   try clear hcz7_3
                   try clear hcz7_4
                   try clear hfz10_0
                   try clear hfz10_1
                   try clear hfz10_2
                   try clear hfz10_3
                   try clear hfz10_4
                   try clear hfz11_0
                   try clear hfz11_1
                   try clear hfz11_2
                   try clear hfz11_3
                   try clear hfz11_4
                   try clear hfz16_0
                   try clear hfz16_1
                   try clear hfz16_2
                   try clear hfz16_3
                   try clear hfz16_4
                   try clear hfz17_0
                   try clear hfz17_1
                   try clear hfz17_2
                   try clear hfz17_3
                   try clear hfz17_4
                   try clear hfz19_0
                   try clear hfz19_1
                   try clear hfz19_2
                   try clear hfz19_3
                   try clear hfz19_4
                   try clear hfz45_0
                   try clear hfz45_1
                   try clear hfz45_2
                   try clear hfz45_3
                   try clear hfz51_0
                   try clear hfz51_1
                   try clear hfz51_2
                   try clear hfz51_3
                   try clear hfz51_4
                   try clear hfz52_0
                   try clear hfz52_1
                   try clear hfz52_2
                   try clear hfz52_3
                   try clear hfz54_0
                   try clear hfz54_1
                   try clear hfz54_2
                   try clear hfz54_3
                   try clear hfz54_4
                   try clear hfz56_0
                   try clear hfz56_1
                   try clear hfz56_2
                   try clear hfz56_3
                   try clear hfz56_4
                   try clear hfz58_0
                   try clear hfz58_1
                   try clear hfz58_2
                   try clear hfz58_3
                   try clear hfz58_4
                   try clear hfz5_0
                   try clear hfz5_1
                   try clear hfz5_2
                   try clear hfz5_3
                   try clear hfz5_4
                   try clear hfz60_0
                   try clear hfz60_1
                   try clear hfz60_2
                   try clear hfz60_3
                   try clear hfz60_4
                   try clear hfz64_0
                   try clear hfz64_1
                   try clear hfz64_2
                   try clear hfz64_3
                   try clear hfz68_0
                   try clear hfz68_1
                   try clear hfz68_2
                   try clear hfz68_3
                   try clear hfz68_4
                   try clear hfz69_0
                   try clear hfz69_1
                   try clear hfz69_2
                   try clear hfz69_3
                   try clear hfz71_0
                   try clear hfz71_1
                   try clear hfz71_2
                   try clear hfz71_3
                   try clear hfz71_4
                   try clear hfz7_0
                   try clear hfz7_1
                   try clear hfz7_2
                   try clear hfz7_3
                   try clear hfz7_4
                   try clear hx117_0
                   try clear hx128_0
                   try clear hx128_1
                   try clear hx128_2
                   try clear hx128_3
                   try clear p1
                   try clear p11
                   try clear p117
                   try clear p12
                   try clear p128
                   try clear p2
                   try clear p6
                   try clear p64
                   try clear q1
                   try clear q11
                   try clear q117
                   try clear q12
                   try clear q128
                   obtain ⟨kq, x118_64, rfl, HA, HJ64, HO_10, BK115, BK129, HB⟩ := hcut
                   cases kq with
                   | zero => exact absurd HA.out (by simp [ecdysisref03_Do.j8])
                   | succ kj64 =>
                    have H := HA.out
                    clear HA
                    simp only [ecdysisref03_Do.j8] at H
                    have HC72 := Aside0.mk H
                    clear H
                    go_upto_if 118 with (fail)
                    go_cut [] (fun wc => ∃ (kq : Nat) (x130000_71 : ByteArray) (x130001_71 : ByteArray) (x130002_71 : Bool) (x130003_71 : Bool), Aside0 (ecdysisref03_Do.j9 kq x7_2 x10_5 x11_5 a1_0 a1_1 a1_2 l1_3 l1_4 x130000_71 x130001_71 x130002_71 x130003_71 = some (r1, r2, r3)) ∧ Aside0 (kq ≤ kj64) ∧ Aside0 (Kd.R k94 94 wc w.heap.size (fun k_ => (w.heap.size ≤ k_) ∧ k_ ≠ gb129) (.slice (some ad128) x10_5.length co42) x10_5) ∧ Aside0 (wc.heap[gb115]? = some (.cells #[.int .i64 a1_0, .int .i64 a1_1, .int .i64 a1_2, (.slice A1_3 l1_3.length c1_3), (.slice A1_4 l1_4.length c1_4)] 54 (0, 0))) ∧ Aside0 (wc.heap[gb129]? = some (.cells #[.string x130000_71, .string x130001_71, .bool x130002_71, .bool x130003_71] 94 (0, 0))) ∧ Aside0 (Below w.heap.size w wc))
                    case first =>
                     have H := HC72.out
                     clear HC72
                     by_cases c73 : x118_64 = true
                     ·subst c73
                      have H1 : (ecdysisref03_Do.j9 kj64 x7_2 x10_5 x11_5 a1_0 a1_1 a1_2 l1_3 l1_4 ((rd_T94 x10_5 x11_5).f0) ((rd_T94 x10_5 x11_5).f0) false false) = some (r1, r2, r3) := by rw [if_pos rfl] at H; exact H
                      clear H
                      have H := H1
                      clear H1
                      have H' := Aside0.mk H
                      clear H
                      have hnb74 := NB129_115.out
                      have hnc74 := NB115_129.out
                      have hcz75_0 : wc.cell? ⟨gb129, 0, none⟩ = some (.string ((rd_T94 x10_5 x11_5).f0)) := (blk_cell BK129.out 0).trans rfl
                      have hcz75_1 : wc.cell? ⟨gb129, 1, none⟩ = some (.string ((rd_T94 x10_5 x11_5).f1)) := (blk_cell BK129.out 1).trans rfl
                      have hcz75_2 : wc.cell? ⟨gb129, 2, none⟩ = some (.bool ((rd_T94 x10_5 x11_5).f2)) := (blk_cell BK129.out 2).trans rfl
                      have hcz75_3 : wc.cell? ⟨gb129, 3, none⟩ = some (.bool x130003_60) := (blk_cell BK129.out 3).trans rfl
                      have hfz75_0 := blk_frozen BK129.out 0
                      have hfz75_1 := blk_frozen BK129.out 1
                      have hfz75_2 := blk_frozen BK129.out 2
                      have hfz75_3 := blk_frozen BK129.out 3
                      go_wp2
                      go_meet
                      case rel => exact ⟨_, (((rd_T94 x10_5 x11_5).f0)), (((rd_T94 x10_5 x11_5).f0)), (false), (false), H', ⟨by have := HJ2.out; have := HJ7.out; have := HJ11.out; have := HJ17.out; have := HK5.out; have := HJ40.out; have := HJ60.out; have := HJ64.out; first | omega | exact Nat.le_refl _⟩, ⟨by (with_reducible repeat (first | apply Kd.R_alloc | apply Kd.R_drewN | apply Kd.R_drew)); exact Kd.R_mono (Kd.R_far (p := ⟨gb129, 3, none⟩) (Kd.R_far (p := ⟨gb129, 2, none⟩) (Kd.R_far (p := ⟨gb129, 1, none⟩) (Kd.R_far (p := ⟨gb129, 0, none⟩) (Kd.R_mono HO_10.out (fun k_ hk => (⟨hk, hk.2⟩ : _ ∧ k_ ≠ gb129))) (fun _ hk => hk.2) (.string ((rd_T94 x10_5 x11_5).f0))) (fun _ hk => hk.2) (.string ((rd_T94 x10_5 x11_5).f0))) (fun _ hk => hk.2) (.bool false)) (fun _ hk => hk.2) (.bool false)) (fun _ hk => ⟨hk.1.1, hk.1.2⟩)⟩, ⟨by (with_reducible repeat (first | refine blk_drewN ?_ _ | refine blk_drew ?_ | refine blk_alloc ?_ _)); refine blk_far ?_ NB115_129.out _; (with_reducible repeat (first | refine blk_drewN ?_ _ | refine blk_drew ?_ | refine blk_alloc ?_ _)); refine blk_far ?_ NB115_129.out _; (with_reducible repeat (first | refine blk_drewN ?_ _ | refine blk_drew ?_ | refine blk_alloc ?_ _)); refine blk_far ?_ NB115_129.out _; (with_reducible repeat (first | refine blk_drewN ?_ _ | refine blk_drew ?_ | refine blk_alloc ?_ _)); refine blk_far ?_ NB115_129.out _; (with_reducible repeat (first | refine blk_drewN ?_ _ | refine blk_drew ?_ | refine blk_alloc ?_ _)); exact BK115.out⟩, ⟨by (with_reducible repeat (first | refine blk_drewN ?_ _ | refine blk_drew ?_ | refine blk_alloc ?_ _)); refine blk_put (cs := #[.string ((rd_T94 x10_5 x11_5).f0), .string ((rd_T94 x10_5 x11_5).f0), .bool false, .bool x130003_60]) ?_ 3 _ rfl; (with_reducible repeat (first | refine blk_drewN ?_ _ | refine blk_drew ?_ | refine blk_alloc ?_ _)); refine blk_put (cs := #[.string ((rd_T94 x10_5 x11_5).f0), .string ((rd_T94 x10_5 x11_5).f0), .bool ((rd_T94 x10_5 x11_5).f2), .bool x130003_60]) ?_ 2 _ rfl; (with_reducible repeat (first | refine blk_drewN ?_ _ | refine blk_drew ?_ | refine blk_alloc ?_ _)); refine blk_put (cs := #[.string ((rd_T94 x10_5 x11_5).f0), .string ((rd_T94 x10_5 x11_5).f1), .bool ((rd_T94 x10_5 x11_5).f2), .bool x130003_60]) ?_ 1 _ rfl; (with_reducible repeat (first | refine blk_drewN ?_ _ | refine blk_drew ?_ | refine blk_alloc ?_ _)); refine blk_put (cs := #[.string ((rd_T94 x10_5 x11_5).f0), .string ((rd_T94 x10_5 x11_5).f1), .bool ((rd_T94 x10_5 x11_5).f2), .bool x130003_60]) ?_ 0 _ rfl; (with_reducible repeat (first | refine blk_drewN ?_ _ | refine blk_drew ?_ | refine blk_alloc ?_ _)); exact BK129.out⟩, ⟨by repeat (first | (with_reducible first | exact HB.out | apply below_alloc | apply pw_below_drewN | apply below_drew1 | refine below_set ?_ GE115.out | refine below_set ?_ GE129.out) | exact HB.out)⟩⟩
                     ·replace c73 := Bool.eq_false_iff.mpr c73
                      subst c73
                      have H1 : (ecdysisref03_Do.j9 kj64 x7_2 x10_5 x11_5 a1_0 a1_1 a1_2 l1_3 l1_4 ((rd_T94 x10_5 x11_5).f0) ((rd_T94 x10_5 x11_5).f1) ((rd_T94 x10_5 x11_5).f2) x130003_60) = some (r1, r2, r3) := by rw [if_neg (show ¬ (false = true) by decide)] at H; exact H
                      clear H
                      have H := H1
                      clear H1
                      have H' := Aside0.mk H
                      clear H
                      go_wp2
                      go_meet
                      case rel => exact ⟨_, (((rd_T94 x10_5 x11_5).f0)), (((rd_T94 x10_5 x11_5).f1)), (((rd_T94 x10_5 x11_5).f2)), (x130003_60), H', ⟨by have := HJ2.out; have := HJ7.out; have := HJ11.out; have := HJ17.out; have := HK5.out; have := HJ40.out; have := HJ60.out; have := HJ64.out; first | omega | exact Nat.le_refl _⟩, ⟨by (with_reducible repeat (first | apply Kd.R_alloc | apply Kd.R_drewN | apply Kd.R_drew)); exact HO_10.out⟩, ⟨by (with_reducible repeat (first | refine blk_drewN ?_ _ | refine blk_drew ?_ | refine blk_alloc ?_ _)); exact BK115.out⟩, ⟨by (with_reducible repeat (first | refine blk_drewN ?_ _ | refine blk_drew ?_ | refine blk_alloc ?_ _)); exact BK129.out⟩, ⟨by repeat (first | (with_reducible first | exact HB.out | apply below_alloc | apply pw_below_drewN | apply below_drew1 | refine below_set ?_ GE115.out | refine below_set ?_ GE129.out) | exact HB.out)⟩⟩
                    case rest =>
                     clear HC72
                     try clear c1
                     try clear p1
                     try clear q1
                     try clear hx1
                     try clear c2
                     try clear p2
                     try clear c3
                     try clear c4
                     try clear c5
                     try clear c6
                     try clear c6b0
                     try clear c6b1
                     try clear p6
                     try clear c7
                     try clear c9
                     try clear c9b0
                     try clear p11
                     try clear q11
                     try clear hx11
                     try clear p12
                     try clear q12
                     try clear hx12
                     try clear c13
                     try clear c15
                     try clear c15b0
                     try clear c15b1
                     try clear c20
                     try clear c20b0
                     try clear c20b1
                     try clear c21
                     try clear c21b0
                     try clear c22
                     try clear c22b0
                     try clear c23
                     try clear c23b0
                     try clear c27
                     try clear c28
                     try clear c28b0
                     try clear c28b1
                     try clear c30
                     try clear c30b0
                     try clear c30b1
                     try clear c31
                     try clear c31b0
                     try clear c31b1
                     try clear c32
                     try clear c32b0
                     try clear c32b1
                     try clear c34
                     try clear c39
                     try clear c39b0
                     try clear c40
                     try clear c40b0
                     try clear c44
                     try clear c46
                     try clear c46b0
                     try clear c46b1
                     try clear c47
                     try clear c47b0
                     try clear c48
                     try clear c48b0
                     try clear c49
                     try clear c49b0
                     try clear c50
                     try clear c53
                     try clear c55
                     try clear c57
                     try clear c59
                     try clear c62
                     try clear c63
                     try clear p64
                     try clear c66
                     try clear c66b0
                     try clear c66b1
                     try clear c67
                     try clear c70
                     try clear c73
                     try clear c74
                     try clear hcz10_0
                     try clear hcz10_1
                     try clear hcz10_2
                     try clear hcz10_3
                     try clear hcz10_4
                     try clear hcz11_0
                     try clear hcz11_1
                     try clear hcz11_2
                     try clear hcz11_3
                     try clear hcz11_4
                     try clear hcz16_0
                     try clear hcz16_1
                     try clear hcz16_2
                     try clear hcz16_3
                     try clear hcz16_4
                     try clear hcz17_0
                     try clear hcz17_1
                     try clear hcz17_2
                     try clear hcz17_3
                     try clear hcz17_4
                     try clear hcz19_0
                     try clear hcz19_1
                     try clear hcz19_2
                     try clear hcz19_3
                     try clear hcz19_4
                     try clear hcz45_0
                     try clear hcz45_1
                     try clear hcz45_2
                     try clear hcz45_3
                     try clear hcz51_0
                     try clear hcz51_1
                     try clear hcz51_2
                     try clear hcz51_3
                     try clear hcz51_4
                     try clear hcz52_0
                     try clear hcz52_1
                     try clear hcz52_2
                     try clear hcz52_3
                     try clear hcz54_0
                     try clear hcz54_1
                     try clear hcz54_2
                     try clear hcz54_3
                     try clear hcz54_4
                     try clear hcz56_0
                     try clear hcz56_1
                     try clear hcz56_2
                     try clear hcz56_3
                     try clear hcz56_4
                     try clear hcz58_0
                     try clear hcz58_1
                     try clear hcz58_2
                     try clear hcz58_3
                     try clear hcz58_4
                     try clear hcz5_0
                     try clear hcz5_1
                     try clear hcz5_2
                     try clear hcz5_3
                     try clear hcz5_4
                     try clear hcz60_0
                     try clear hcz60_1
                     try clear hcz60_2
                     try clear hcz60_3
                     try clear hcz60_4
                     try clear hcz64_0
                     try clear hcz64_1
                     try clear hcz64_2
                     try clear hcz64_3
                     try clear hcz68_0
                     try clear hcz68_1
                     try clear hcz68_2
                     try clear hcz68_3
                     try clear hcz68_4
                     try clear hcz69_0
                     try clear hcz69_1
                     try clear hcz69_2
                     try clear hcz69_3
                     try clear hcz71_0
                     try clear hcz71_1
                     try clear hcz71_2
                     try clear hcz71_3
                     try clear hcz71_4
                     try clear hcz75_0
                     try clear hcz75_1
                     try clear hcz75_2
                     try clear hcz75_3
                     try clear hcz7_0
                     try clear hcz7_1
                     try clear hcz7_2
                     try clear hcz7_3
                     try clear hcz7_4
                     try clear hfz10_0
                     try clear hfz10_1
                     try clear hfz10_2
                     try clear hfz10_3
                     try clear hfz10_4
                     try clear hfz11_0
                     try clear hfz11_1
                     try clear hfz11_2
                     try clear hfz11_3
                     try clear hfz11_4
                     try clear hfz16_0
                     try clear hfz16_1
                     try clear hfz16_2
                     try clear hfz16_3
                     try clear hfz16_4
                     try clear hfz17_0
                     try clear hfz17_1
                     try clear hfz17_2
                     try clear hfz17_3
                     try clear hfz17_4
                     try clear hfz19_0
                     try clear hfz19_1
                     try clear hfz19_2
                     try clear hfz19_3
                     try clear hfz19_4
                     try clear hfz45_0
                     try clear hfz45_1
                     try clear hfz45_2
                     try clear hfz45_3
                     try clear hfz51_0
                     try clear hfz51_1
                     try clear hfz51_2
                     try clear hfz51_3
                     try clear hfz51_4
                     try clear hfz52_0
                     try clear hfz52_1
                     try clear hfz52_2
                     try clear hfz52_3
                     try clear hfz54_0
                     try clear hfz54_1
                     try clear hfz54_2
                     try clear hfz54_3
                     try clear hfz54_4
                     try clear hfz56_0
                     try clear hfz56_1
                     try clear hfz56_2
                     try clear hfz56_3
                     try clear hfz56_4
                     try clear hfz58_0
                     try clear hfz58_1
                     try clear hfz58_2
                     try clear hfz58_3
                     try clear hfz58_4
                     try clear hfz5_0
                     try clear hfz5_1
                     try clear hfz5_2
                     try clear hfz5_3
                     try clear hfz5_4
                     try clear hfz60_0
                     try clear hfz60_1
                     try clear hfz60_2
                     try clear hfz60_3
                     try clear hfz60_4
                     try clear hfz64_0
                     try clear hfz64_1
                     try clear hfz64_2
                     try clear hfz64_3
                     try clear hfz68_0
                     try clear hfz68_1
                     try clear hfz68_2
                     try clear hfz68_3
                     try clear hfz68_4
                     try clear hfz69_0
                     try clear hfz69_1
                     try clear hfz69_2
                     try clear hfz69_3
                     try clear hfz71_0
                     try clear hfz71_1
                     try clear hfz71_2
                     try clear hfz71_3
                     try clear hfz71_4
                     try clear hfz75_0
                     try clear hfz75_1
                     try clear hfz75_2
                     try clear hfz75_3
                     try clear hfz7_0
                     try clear hfz7_1
                     try clear hfz7_2
                     try clear hfz7_3
                     try clear hfz7_4
                     try clear hx117_0
                     try clear hx128_0
                     try clear hx128_1
                     try clear hx128_2
                     try clear hx128_3
                     try clear p1
                     try clear p11
                     try clear p117
                     try clear p12
                     try clear p128
                     try clear p2
                     try clear p6
                     try clear p64
                     try clear q1
                     try clear q11
                     try clear q117
                     try clear q12
                     try clear q128
                     obtain ⟨kq, x130000_71, x130001_71, x130002_71, x130003_71, HA, HJ71, HO_10, BK115, BK129, HB⟩ := hcut
                     cases kq with
                     | zero => exact absurd HA.out (by simp [ecdysisref03_Do.j9])
                     | succ kj71 =>
                      have H := HA.out
                      clear HA
                      simp only [ecdysisref03_Do.j9] at H
                      have HC76 := Aside0.mk H
                      clear H
                      go_upto_region 25 with (fail)
                      go_cut [137] (fun v137 wc => ∃ (kq : Nat) (x137_75 : Bool), v137 = .bool x137_75 ∧ Aside0 (ecdysisref03_Do.j10 kq x7_2 x10_5 x11_5 x137_75 a1_0 a1_1 a1_2 l1_3 l1_4 x130000_71 x130001_71 x130002_71 x130003_71 = some (r1, r2, r3)) ∧ Aside0 (kq ≤ kj71) ∧ Aside0 (Kd.R k94 94 wc w.heap.size (fun k_ => (w.heap.size ≤ k_) ∧ k_ ≠ gb129) (.slice (some ad128) x10_5.length co42) x10_5) ∧ Aside0 (wc.heap[gb115]? = some (.cells #[.int .i64 a1_0, .int .i64 a1_1, .int .i64 a1_2, (.slice A1_3 l1_3.length c1_3), (.slice A1_4 l1_4.length c1_4)] 54 (0, 0))) ∧ Aside0 (wc.heap[gb129]? = some (.cells #[.string x130000_71, .string x130001_71, .bool x130002_71, .bool x130003_71] 94 (0, 0))) ∧ Aside0 (Below w.heap.size w wc))
                      case first =>
                       have H := HC76.out
                       clear HC76
                       by_cases c77 : a1_0 = 4
                       ·rw [if_pos c77] at H
                        have c77b0 : (a1_0 == 4) = true := beq_iff_eq.mpr c77
                        have c77b1 : (a1_0 != 4) = false := bne_eq_false_iff_eq.mpr c77
                        clear c77
                        (first | rw [c77b0] | (simp only [i64_w, i32_w]; rw [c77b0]) | skip)
                        by_cases c78 : x130002_71 = true
                        ·subst c78
                         have H1 : ((ecdysisref03_has.f kj71 l1_4 x11_5).bind fun t130 => (ecdysisref03_Do.j10 kj71 x7_2 x10_5 x11_5 (!t130) a1_0 a1_1 a1_2 l1_3 l1_4 x130000_71 x130001_71 true x130003_71)) = some (r1, r2, r3) := by rw [if_pos rfl] at H; exact H
                         clear H
                         have H := H1
                         clear H1
                         replace H := Option.bind_eq_some_iff.mp H
                         obtain ⟨t130, A790, H⟩ := H
                         replace H : (ecdysisref03_Do.j10 kj71 x7_2 x10_5 x11_5 (!t130) a1_0 a1_1 a1_2 l1_3 l1_4 x130000_71 x130001_71 true x130003_71) = some (r1, r2, r3) := H
                         have A79 := Aside0.mk A790
                         clear A790
                         have H' := Aside0.mk H
                         clear H
                         have hnb80 := NB115_129.out
                         have hnc80 := NB129_115.out
                         have hcz81_0 : wc.cell? ⟨gb115, 0, none⟩ = some (.int .i64 a1_0) := (blk_cell BK115.out 0).trans rfl
                         have hcz81_1 : wc.cell? ⟨gb115, 1, none⟩ = some (.int .i64 a1_1) := (blk_cell BK115.out 1).trans rfl
                         have hcz81_2 : wc.cell? ⟨gb115, 2, none⟩ = some (.int .i64 a1_2) := (blk_cell BK115.out 2).trans rfl
                         have hcz81_3 : wc.cell? ⟨gb115, 3, none⟩ = some (.slice A1_3 l1_3.length c1_3) := (blk_cell BK115.out 3).trans rfl
                         have hcz81_4 : wc.cell? ⟨gb115, 4, none⟩ = some (.slice A1_4 l1_4.length c1_4) := (blk_cell BK115.out 4).trans rfl
                         have hfz81_0 := blk_frozen BK115.out 0
                         have hfz81_1 := blk_frozen BK115.out 1
                         have hfz81_2 := blk_frozen BK115.out 2
                         have hfz81_3 := blk_frozen BK115.out 3
                         have hfz81_4 := blk_frozen BK115.out 4
                         have hcz82_0 : wc.cell? ⟨gb129, 0, none⟩ = some (.string x130000_71) := (blk_cell BK129.out 0).trans rfl
                         have hcz82_1 : wc.cell? ⟨gb129, 1, none⟩ = some (.string x130001_71) := (blk_cell BK129.out 1).trans rfl
                         have hcz82_2 : wc.cell? ⟨gb129, 2, none⟩ = some (.bool true) := (blk_cell BK129.out 2).trans rfl
                         have hcz82_3 : wc.cell? ⟨gb129, 3, none⟩ = some (.bool x130003_71) := (blk_cell BK129.out 3).trans rfl
                         have hfz82_0 := blk_frozen BK129.out 0
                         have hfz82_1 := blk_frozen BK129.out 1
                         have hfz82_2 := blk_frozen BK129.out 2
                         have hfz82_3 := blk_frozen BK129.out 3
                         go_wp2_with (first | (go_at_call 40; (with_reducible refine (ecdysisref03_has.calls kj71 _ _ l1_4 x11_5 t130 _ ?side1 ?side2 A79.out).mono ?_); (case side1 => repeat (first | exact (Kd.C_below HR1_4.out HB.out) | (with_reducible refine Kd.C_alloc ?_ _) | (with_reducible refine Kd.C_drewN ?_ _) | (with_reducible refine Kd.C_drew ?_))); (case side2 => exact HC1_4.out); rintro e w' ⟨rfl, ⟨nd, rfl⟩⟩))
                         go_meet
                         case rel => exact ⟨_, (!t130), (by first | rfl | (simp; done) | (simp [*]; done)), H', ⟨by have := HJ2.out; have := HJ7.out; have := HJ11.out; have := HJ17.out; have := HK5.out; have := HJ40.out; have := HJ60.out; have := HJ64.out; have := HJ71.out; first | omega | exact Nat.le_refl _⟩, ⟨by (with_reducible repeat (first | apply Kd.R_alloc | apply Kd.R_drewN | apply Kd.R_drew)); exact HO_10.out⟩, ⟨by (with_reducible repeat (first | refine blk_drewN ?_ _ | refine blk_drew ?_ | refine blk_alloc ?_ _)); exact BK115.out⟩, ⟨by (with_reducible repeat (first | refine blk_drewN ?_ _ | refine blk_drew ?_ | refine blk_alloc ?_ _)); exact BK129.out⟩, ⟨by repeat (first | (with_reducible first | exact HB.out | apply below_alloc | apply pw_below_drewN | apply below_drew1 | refine below_set ?_ GE115.out | refine below_set ?_ GE129.out) | exact HB.out)⟩⟩
                        ·replace c78 := Bool.eq_false_iff.mpr c78
                         subst c78
                         have H1 : (ecdysisref03_Do.j10 kj71 x7_2 x10_5 x11_5 false a1_0 a1_1 a1_2 l1_3 l1_4 x130000_71 x130001_71 false x130003_71) = some (r1, r2, r3) := by rw [if_neg (show ¬ (false = true) by decide)] at H; exact H
                         clear H
                         have H := H1
                         clear H1
                         have H' := Aside0.mk H
                         clear H
                         have hnb83 := NB115_129.out
                         have hnc83 := NB129_115.out
                         have hcz84_0 : wc.cell? ⟨gb115, 0, none⟩ = some (.int .i64 a1_0) := (blk_cell BK115.out 0).trans rfl
                         have hcz84_1 : wc.cell? ⟨gb115, 1, none⟩ = some (.int .i64 a1_1) := (blk_cell BK115.out 1).trans rfl
                         have hcz84_2 : wc.cell? ⟨gb115, 2, none⟩ = some (.int .i64 a1_2) := (blk_cell BK115.out 2).trans rfl
                         have hcz84_3 : wc.cell? ⟨gb115, 3, none⟩ = some (.slice A1_3 l1_3.length c1_3) := (blk_cell BK115.out 3).trans rfl
                         have hcz84_4 : wc.cell? ⟨gb115, 4, none⟩ = some (.slice A1_4 l1_4.length c1_4) := (blk_cell BK115.out 4).trans rfl
                         have hfz84_0 := blk_frozen BK115.out 0
                         have hfz84_1 := blk_frozen BK115.out 1
                         have hfz84_2 := blk_frozen BK115.out 2
                         have hfz84_3 := blk_frozen BK115.out 3
                         have hfz84_4 := blk_frozen BK115.out 4
                         have hcz85_0 : wc.cell? ⟨gb129, 0, none⟩ = some (.string x130000_71) := (blk_cell BK129.out 0).trans rfl
                         have hcz85_1 : wc.cell? ⟨gb129, 1, none⟩ = some (.string x130001_71) := (blk_cell BK129.out 1).trans rfl
                         have hcz85_2 : wc.cell? ⟨gb129, 2, none⟩ = some (.bool false) := (blk_cell BK129.out 2).trans rfl
                         have hcz85_3 : wc.cell? ⟨gb129, 3, none⟩ = some (.bool x130003_71) := (blk_cell BK129.out 3).trans rfl
                         have hfz85_0 := blk_frozen BK129.out 0
                         have hfz85_1 := blk_frozen BK129.out 1
                         have hfz85_2 := blk_frozen BK129.out 2
                         have hfz85_3 := blk_frozen BK129.out 3
                         go_wp2
                         go_meet
                         case rel => exact ⟨_, (false), (by first | rfl | (simp; done) | (simp [*]; done)), H', ⟨by have := HJ2.out; have := HJ7.out; have := HJ11.out; have := HJ17.out; have := HK5.out; have := HJ40.out; have := HJ60.out; have := HJ64.out; have := HJ71.out; first | omega | exact Nat.le_refl _⟩, ⟨by (with_reducible repeat (first | apply Kd.R_alloc | apply Kd.R_drewN | apply Kd.R_drew)); exact HO_10.out⟩, ⟨by (with_reducible repeat (first | refine blk_drewN ?_ _ | refine blk_drew ?_ | refine blk_alloc ?_ _)); exact BK115.out⟩, ⟨by (with_reducible repeat (first | refine blk_drewN ?_ _ | refine blk_drew ?_ | refine blk_alloc ?_ _)); exact BK129.out⟩, ⟨by repeat (first | (with_reducible first | exact HB.out | apply below_alloc | apply pw_below_drewN | apply below_drew1 | refine below_set ?_ GE115.out | refine below_set ?_ GE129.out) | exact HB.out)⟩⟩
                       ·rw [if_neg c77] at H
                        have c77b0 : (a1_0 == 4) = false := beq_eq_false_iff_ne.mpr c77
                        have c77b1 : (a1_0 != 4) = true := bne_iff_ne.mpr c77
                        (first | rw [c77b0] | (simp only [i64_w, i32_w]; rw [c77b0]) | skip)
                        have H' := Aside0.mk H
                        clear H
                        have hnb86 := NB115_129.out
                        have hnc86 := NB129_115.out
                        have hcz87_0 : wc.cell? ⟨gb115, 0, none⟩ = some (.int .i64 a1_0) := (blk_cell BK115.out 0).trans rfl
                        have hcz87_1 : wc.cell? ⟨gb115, 1, none⟩ = some (.int .i64 a1_1) := (blk_cell BK115.out 1).trans rfl
                        have hcz87_2 : wc.cell? ⟨gb115, 2, none⟩ = some (.int .i64 a1_2) := (blk_cell BK115.out 2).trans rfl
                        have hcz87_3 : wc.cell? ⟨gb115, 3, none⟩ = some (.slice A1_3 l1_3.length c1_3) := (blk_cell BK115.out 3).trans rfl
                        have hcz87_4 : wc.cell? ⟨gb115, 4, none⟩ = some (.slice A1_4 l1_4.length c1_4) := (blk_cell BK115.out 4).trans rfl
                        have hfz87_0 := blk_frozen BK115.out 0
                        have hfz87_1 := blk_frozen BK115.out 1
                        have hfz87_2 := blk_frozen BK115.out 2
                        have hfz87_3 := blk_frozen BK115.out 3
                        have hfz87_4 := blk_frozen BK115.out 4
                        go_wp2
                        go_meet
                        case rel => exact ⟨_, (false), (by first | rfl | (simp; done) | (simp [*]; done)), H', ⟨by have := HJ2.out; have := HJ7.out; have := HJ11.out; have := HJ17.out; have := HK5.out; have := HJ40.out; have := HJ60.out; have := HJ64.out; have := HJ71.out; first | omega | exact Nat.le_refl _⟩, ⟨by (with_reducible repeat (first | apply Kd.R_alloc | apply Kd.R_drewN | apply Kd.R_drew)); exact HO_10.out⟩, ⟨by (with_reducible repeat (first | refine blk_drewN ?_ _ | refine blk_drew ?_ | refine blk_alloc ?_ _)); exact BK115.out⟩, ⟨by (with_reducible repeat (first | refine blk_drewN ?_ _ | refine blk_drew ?_ | refine blk_alloc ?_ _)); exact BK129.out⟩, ⟨by repeat (first | (with_reducible first | exact HB.out | apply below_alloc | apply pw_below_drewN | apply below_drew1 | refine below_set ?_ GE115.out | refine below_set ?_ GE129.out) | exact HB.out)⟩⟩
                      case rest =>
                       clear HC76
                       try clear c1
                       try clear p1
                       try clear q1
                       try clear hx1
                       try clear c2
                       try clear p2
                       try clear c3
                       try clear c4
                       try clear c5
                       try clear c6
                       try clear c6b0
                       try clear c6b1
                       try clear p6
                       try clear c7
                       try clear c8
                       try clear c9
                       try clear c9b0
                       try clear p11
                       try clear q11
                       try clear hx11
                       try clear p12
                       try clear q12
                       try clear hx12
                       try clear c13
                       try clear c15
                       try clear c15b0
                       try clear c15b1
                       try clear c20
                       try clear c20b0
                       try clear c20b1
                       try clear c21
                       try clear c21b0
                       try clear c22
                       try clear c22b0
                       try clear c23
                       try clear c23b0
                       try clear c27
                       try clear c28
                       try clear c28b0
                       try clear c28b1
                       try clear c30
                       try clear c30b0
                       try clear c30b1
                       try clear c31
                       try clear c31b0
                       try clear c31b1
                       try clear c32
                       try clear c32b0
                       try clear c32b1
                       try clear c34
                       try clear c39
                       try clear c39b0
                       try clear c40
                       try clear c40b0
                       try clear c44
                       try clear c46
                       try clear c46b0
                       try clear c46b1
                       try clear c47
                       try clear c47b0
                       try clear c48
                       try clear c48b0
                       try clear c49
                       try clear c49b0
                       try clear c50
                       try clear c53
                       try clear c55
                       try clear c57
                       try clear c59
                       try clear c62
                       try clear c63
                       try clear p64
                       try clear c66
                       try clear c66b0
                       try clear c66b1
                       try clear c67
                       try clear c70
                       try clear c73
                       try clear c74
                       try clear c77
                       try clear c77b0
                       try clear c77b1
                       try clear c78
                       try clear c80
                       try clear c83
                       try clear c86
                       try clear hcz10_0
                       try clear hcz10_1
                       try clear hcz10_2
                       try clear hcz10_3
                       try clear hcz10_4
                       try clear hcz11_0
                       try clear hcz11_1
                       try clear hcz11_2
                       try clear hcz11_3
                       try clear hcz11_4
                       try clear hcz16_0
                       try clear hcz16_1
                       try clear hcz16_2
                       try clear hcz16_3
                       try clear hcz16_4
                       try clear hcz17_0
                       try clear hcz17_1
                       try clear hcz17_2
                       try clear hcz17_3
                       try clear hcz17_4
                       try clear hcz19_0
                       try clear hcz19_1
                       try clear hcz19_2
                       try clear hcz19_3
                       try clear hcz19_4
                       try clear hcz45_0
                       try clear hcz45_1
                       try clear hcz45_2
                       try clear hcz45_3
                       try clear hcz51_0
                       try clear hcz51_1
                       try clear hcz51_2
                       try clear hcz51_3
                       try clear hcz51_4
                       try clear hcz52_0
                       try clear hcz52_1
                       try clear hcz52_2
                       try clear hcz52_3
                       try clear hcz54_0
                       try clear hcz54_1
                       try clear hcz54_2
                       try clear hcz54_3
                       try clear hcz54_4
                       try clear hcz56_0
                       try clear hcz56_1
                       try clear hcz56_2
                       try clear hcz56_3
                       try clear hcz56_4
                       try clear hcz58_0
                       try clear hcz58_1
                       try clear hcz58_2
                       try clear hcz58_3
                       try clear hcz58_4
                       try clear hcz5_0
                       try clear hcz5_1
                       try clear hcz5_2
                       try clear hcz5_3
                       try clear hcz5_4
                       try clear hcz60_0
                       try clear hcz60_1
                       try clear hcz60_2
                       try clear hcz60_3
                       try clear hcz60_4
                       try clear hcz64_0
                       try clear hcz64_1
                       try clear hcz64_2
                       try clear hcz64_3
                       try clear hcz68_0
                       try clear hcz68_1
                       try clear hcz68_2
                       try clear hcz68_3
                       try clear hcz68_4
                       try clear hcz69_0
                       try clear hcz69_1
                       try clear hcz69_2
                       try clear hcz69_3
                       try clear hcz71_0
                       try clear hcz71_1
                       try clear hcz71_2
                       try clear hcz71_3
                       try clear hcz71_4
                       try clear hcz75_0
                       try clear hcz75_1
                       try clear hcz75_2
                       try clear hcz75_3
                       try clear hcz7_0
                       try clear hcz7_1
                       try clear hcz7_2
                       try clear hcz7_3
                       try clear hcz7_4
                       try clear hcz81_0
                       try clear hcz81_1
                       try clear hcz81_2
                       try clear hcz81_3
                       try clear hcz81_4
                       try clear hcz82_0
                       try clear hcz82_1
                       try clear hcz82_2
                       try clear hcz82_3
                       try clear hcz84_0
                       try clear hcz84_1
                       try clear hcz84_2
                       try clear hcz84_3
                       try clear hcz84_4
                       try clear hcz85_0
                       try clear hcz85_1
                       try clear hcz85_2
                       try clear hcz85_3
                       try clear hcz87_0
                       try clear hcz87_1
                       try clear hcz87_2
                       try clear hcz87_3
                       try clear hcz87_4
                       try clear hfz10_0
                       try clear hfz10_1
                       try clear hfz10_2
                       try clear hfz10_3
                       try clear hfz10_4
                       try clear hfz11_0
                       try clear hfz11_1
                       try clear hfz11_2
                       try clear hfz11_3
                       try clear hfz11_4
                       try clear hfz16_0
                       try clear hfz16_1
                       try clear hfz16_2
                       try clear hfz16_3
                       try clear hfz16_4
                       try clear hfz17_0
                       try clear hfz17_1
                       try clear hfz17_2
                       try clear hfz17_3
                       try clear hfz17_4
                       try clear hfz19_0
                       try clear hfz19_1
                       try clear hfz19_2
                       try clear hfz19_3
                       try clear hfz19_4
                       try clear hfz45_0
                       try clear hfz45_1
                       try clear hfz45_2
                       try clear hfz45_3
                       try clear hfz51_0
                       try clear hfz51_1
                       try clear hfz51_2
                       try clear hfz51_3
                       try clear hfz51_4
                       try clear hfz52_0
                       try clear hfz52_1
                       try clear hfz52_2
                       try clear hfz52_3
                       try clear hfz54_0
                       try clear hfz54_1
                       try clear hfz54_2
                       try clear hfz54_3
                       try clear hfz54_4
                       try clear hfz56_0
                       try clear hfz56_1
                       try clear hfz56_2
                       try clear hfz56_3
                       try clear hfz56_4
                       try clear hfz58_0
                       try clear hfz58_1
                       try clear hfz58_2
                       try clear hfz58_3
                       try clear hfz58_4
                       try clear hfz5_0
                       try clear hfz5_1
                       try clear hfz5_2
                       try clear hfz5_3
                       try clear hfz5_4
                       try clear hfz60_0
                       try clear hfz60_1
                       try clear hfz60_2
                       try clear hfz60_3
                       try clear hfz60_4
                       try clear hfz64_0
                       try clear hfz64_1
                       try clear hfz64_2
                       try clear hfz64_3
                       try clear hfz68_0
                       try clear hfz68_1
                       try clear hfz68_2
                       try clear hfz68_3
                       try clear hfz68_4
                       try clear hfz69_0
                       try clear hfz69_1
                       try clear hfz69_2
                       try clear hfz69_3
                       try clear hfz71_0
                       try clear hfz71_1
                       try clear hfz71_2
                       try clear hfz71_3
                       try clear hfz71_4
                       try clear hfz75_0
                       try clear hfz75_1
                       try clear hfz75_2
                       try clear hfz75_3
                       try clear hfz7_0
                       try clear hfz7_1
                       try clear hfz7_2
                       try clear hfz7_3
                       try clear hfz7_4
                       try clear hfz81_0
                       try clear hfz81_1
                       try clear hfz81_2
                       try clear hfz81_3
                       try clear hfz81_4
                       try clear hfz82_0
                       try clear hfz82_1
                       try clear hfz82_2
                       try clear hfz82_3
                       try clear hfz84_0
                       try clear hfz84_1
                       try clear hfz84_2
                       try clear hfz84_3
                       try clear hfz84_4
                       try clear hfz85_0
                       try clear hfz85_1
                       try clear hfz85_2
                       try clear hfz85_3
                       try clear hfz87_0
                       try clear hfz87_1
                       try clear hfz87_2
                       try clear hfz87_3
                       try clear hfz87_4
                       try clear hx117_0
                       try clear hx128_0
                       try clear hx128_1
                       try clear hx128_2
                       try clear hx128_3
                       try clear p1
                       try clear p11
                       try clear p117
                       try clear p12
                       try clear p128
                       try clear p2
                       try clear p6
                       try clear p64
                       try clear q1
                       try clear q11
                       try clear q117
                       try clear q12
                       try clear q128
                       obtain ⟨kq, x137_75, rfl, HA, HJ75, HO_10, BK115, BK129, HB⟩ := hcut
                       cases kq with
                       | zero => exact absurd HA.out (by simp [ecdysisref03_Do.j10])
                       | succ kj75 =>
                        have H := HA.out
                        clear HA
                        simp only [ecdysisref03_Do.j10] at H
                        by_cases c88 : x137_75 = true
                        ·subst c88
                         have H1 : (if a1_0 = 4 then (if 0 ≤ x11_5 then (if x11_5 < (x10_5.length : Int) then (ecdysisref03_Do.l1 kj75 x7_2 (x10_5.set (x11_5 : Int).toNat (⟨x130001_71, x130001_71, false, false⟩ : S94)) (wrap64 (x11_5 + 1)) a1_0 a1_1 a1_2 l1_3 l1_4) else (none)) else (none)) else (if 0 ≤ x11_5 then (if x11_5 < (x10_5.length : Int) then (ecdysisref03_Do.l1 kj75 x7_2 (x10_5.set (x11_5 : Int).toNat (⟨x130001_71, x130001_71, x130002_71, x130003_71⟩ : S94)) (wrap64 (x11_5 + 1)) a1_0 a1_1 a1_2 l1_3 l1_4) else (none)) else (none))) = some (r1, r2, r3) := by rw [if_pos rfl] at H; exact H
                         clear H
                         have H := H1
                         clear H1
                         by_cases c89 : a1_0 = 4
                         ·rw [if_pos c89] at H
                          have c89b0 : (a1_0 == 4) = true := beq_iff_eq.mpr c89
                          have c89b1 : (a1_0 != 4) = false := bne_eq_false_iff_eq.mpr c89
                          clear c89
                          by_cases c90 : 0 ≤ x11_5
                          ·rw [if_pos c90] at H
                           have c90b0 : decide (0 ≤ x11_5) = true := decide_eq_true c90
                           clear c90
                           by_cases c91 : x11_5 < (x10_5.length : Int)
                           ·rw [if_pos c91] at H
                            have c91b0 : decide (x11_5 < (x10_5.length : Int)) = true := decide_eq_true c91
                            clear c91
                            obtain ⟨y131, hy131⟩ : ∃ y_ : List (S94), y_ = (x10_5.set (x11_5 : Int).toNat (⟨x130001_71, x130001_71, false, false⟩ : S94)) := ⟨_, rfl⟩
                            replace H : (ecdysisref03_Do.l1 kj75 x7_2 y131 (wrap64 (x11_5 + 1)) a1_0 a1_1 a1_2 l1_3 l1_4) = some (r1, r2, r3) := by first | (rw [hy131]; with_reducible exact H) | (have H2_ := (Option.bind_some _ _).symm.trans H; rw [hy131]; with_reducible exact H2_) | (have H2_ := (Option.bind_some _ _).symm.trans H; with_reducible exact H2_) | with_reducible exact H | (rw [hy131]; exact H) | exact H
                            have Ny131 := Aside0.mk hy131
                            clear hy131
                            have H' := Aside0.mk H
                            clear H
                            have hnb93 := NB129_115.out
                            have hnc93 := NB115_129.out
                            have hcz94_0 : wc.cell? ⟨gb129, 0, none⟩ = some (.string x130000_71) := (blk_cell BK129.out 0).trans rfl
                            have hcz94_1 : wc.cell? ⟨gb129, 1, none⟩ = some (.string x130001_71) := (blk_cell BK129.out 1).trans rfl
                            have hcz94_2 : wc.cell? ⟨gb129, 2, none⟩ = some (.bool x130002_71) := (blk_cell BK129.out 2).trans rfl
                            have hcz94_3 : wc.cell? ⟨gb129, 3, none⟩ = some (.bool x130003_71) := (blk_cell BK129.out 3).trans rfl
                            have hfz94_0 := blk_frozen BK129.out 0
                            have hfz94_1 := blk_frozen BK129.out 1
                            have hfz94_2 := blk_frozen BK129.out 2
                            have hfz94_3 := blk_frozen BK129.out 3
                            go_wp2_with (first | ((with_reducible refine gate_store (t := 9) (p := 140) rfl ?_); refine store_event (t := 9) (p := 140) (v := ?vo_w95) (w1 := (wc.setCell ⟨gb129, 0, none⟩ (.string x130001_71))) ?hg ?ho ?hn ?hr ?_; (case ho => rfl); (case hg => rfl); (case hn => rfl); (case hr => first | (go_simp; done) | (go_simp; rfl)); intro w95 hw; have n0_ : Aside0 (Kd.R k94 94 w95 w.heap.size (fun k_ => (w.heap.size ≤ k_) ∧ k_ ≠ gb129) (.slice (some ad128) x10_5.length co42) x10_5) := ⟨(by rw [hw]; exact (by (with_reducible repeat (first | apply Kd.R_alloc | apply Kd.R_drewN | apply Kd.R_drew)); exact Kd.R_mono (Kd.R_far (p := ⟨gb129, 0, none⟩) (Kd.R_mono HO_10.out (fun k_ hk => (⟨hk, hk.2⟩ : _ ∧ k_ ≠ gb129))) (fun _ hk => hk.2) (.string x130001_71)) (fun _ hk => ⟨hk.1.1, hk.1.2⟩)))⟩; have n1_ : Aside0 (w95.heap[gb115]? = some (.cells #[.int .i64 a1_0, .int .i64 a1_1, .int .i64 a1_2, .slice A1_3 l1_3.length c1_3, .slice A1_4 l1_4.length c1_4] 54 (0, 0))) := ⟨(by rw [hw]; exact (by (with_reducible repeat (first | refine blk_drewN ?_ _ | refine blk_drew ?_ | refine blk_alloc ?_ _)); refine blk_far ?_ NB115_129.out _; (with_reducible repeat (first | refine blk_drewN ?_ _ | refine blk_drew ?_ | refine blk_alloc ?_ _)); exact BK115.out))⟩; have n2_ : Aside0 (w95.heap[gb129]? = some (.cells #[.string x130001_71, .string x130001_71, .bool x130002_71, .bool x130003_71] 94 (0, 0))) := ⟨(by rw [hw]; exact (by (with_reducible repeat (first | refine blk_drewN ?_ _ | refine blk_drew ?_ | refine blk_alloc ?_ _)); refine blk_put (cs := #[.string x130000_71, .string x130001_71, .bool x130002_71, .bool x130003_71]) ?_ 0 _ rfl; (with_reducible repeat (first | refine blk_drewN ?_ _ | refine blk_drew ?_ | refine blk_alloc ?_ _)); exact BK129.out))⟩; have n3_ : Aside0 (Below w.heap.size w w95) := ⟨(by rw [hw]; exact (by repeat (first | (with_reducible first | exact HB.out | apply below_alloc | apply pw_below_drewN | apply below_drew1 | refine below_set ?_ GE115.out | refine below_set ?_ GE129.out) | exact HB.out)))⟩; clear hw; clear HO_10; clear BK115; clear BK129; clear HB; have HO_10 := n0_; have BK115 := n1_; have BK129 := n2_; have HB := n3_; clear n0_ n1_ n2_ n3_; have hcz96_0 : w95.cell? ⟨gb115, 0, none⟩ = some (.int .i64 a1_0) := (blk_cell BK115.out 0).trans rfl; have hcz96_1 : w95.cell? ⟨gb115, 1, none⟩ = some (.int .i64 a1_1) := (blk_cell BK115.out 1).trans rfl; have hcz96_2 : w95.cell? ⟨gb115, 2, none⟩ = some (.int .i64 a1_2) := (blk_cell BK115.out 2).trans rfl; have hcz96_3 : w95.cell? ⟨gb115, 3, none⟩ = some (.slice A1_3 l1_3.length c1_3) := (blk_cell BK115.out 3).trans rfl; have hcz96_4 : w95.cell? ⟨gb115, 4, none⟩ = some (.slice A1_4 l1_4.length c1_4) := (blk_cell BK115.out 4).trans rfl; have hfz96_0 := blk_frozen BK115.out 0; have hfz96_1 := blk_frozen BK115.out 1; have hfz96_2 := blk_frozen BK115.out 2; have hfz96_3 := blk_frozen BK115.out 3; have hfz96_4 := blk_frozen BK115.out 4; have hcz97_0 : w95.cell? ⟨gb129, 0, none⟩ = some (.string x130001_71) := (blk_cell BK129.out 0).trans rfl; have hcz97_1 : w95.cell? ⟨gb129, 1, none⟩ = some (.string x130001_71) := (blk_cell BK129.out 1).trans rfl; have hcz97_2 : w95.cell? ⟨gb129, 2, none⟩ = some (.bool x130002_71) := (blk_cell BK129.out 2).trans rfl; have hcz97_3 : w95.cell? ⟨gb129, 3, none⟩ = some (.bool x130003_71) := (blk_cell BK129.out 3).trans rfl; have hfz97_0 := blk_frozen BK129.out 0; have hfz97_1 := blk_frozen BK129.out 1; have hfz97_2 := blk_frozen BK129.out 2; have hfz97_3 := blk_frozen BK129.out 3) | ((with_reducible refine gate_store (t := 94) (p := 12) rfl ?_); refine store_event (t := 94) (p := 12) (v := ?vo_w98) (w1 := ((((w95.setCell ⟨gb129, 0, none⟩ (.string x130001_71)).setCell ⟨gb129, 1, none⟩ (.string x130001_71)).setCell ⟨gb129, 2, none⟩ (.bool false)).setCell ⟨gb129, 3, none⟩ (.bool false))) ?hg ?ho ?hn ?hr ?_; (case ho => rfl); (case hg => rfl); (case hn => rfl); (case hr => first | (go_simp; done) | (go_simp; rfl)); intro w98 hw; have n0_ : Aside0 (Kd.R k94 94 w98 w.heap.size (fun k_ => (w.heap.size ≤ k_) ∧ k_ ≠ gb129) (.slice (some ad128) x10_5.length co42) x10_5) := ⟨(by rw [hw]; exact (by (with_reducible repeat (first | apply Kd.R_alloc | apply Kd.R_drewN | apply Kd.R_drew)); exact Kd.R_mono (Kd.R_far (p := ⟨gb129, 3, none⟩) (Kd.R_far (p := ⟨gb129, 2, none⟩) (Kd.R_far (p := ⟨gb129, 1, none⟩) (Kd.R_far (p := ⟨gb129, 0, none⟩) (Kd.R_mono HO_10.out (fun k_ hk => (⟨hk, hk.2⟩ : _ ∧ k_ ≠ gb129))) (fun _ hk => hk.2) (.string x130001_71)) (fun _ hk => hk.2) (.string x130001_71)) (fun _ hk => hk.2) (.bool false)) (fun _ hk => hk.2) (.bool false)) (fun _ hk => ⟨hk.1.1, hk.1.2⟩)))⟩; have n1_ : Aside0 (w98.heap[gb115]? = some (.cells #[.int .i64 a1_0, .int .i64 a1_1, .int .i64 a1_2, .slice A1_3 l1_3.length c1_3, .slice A1_4 l1_4.length c1_4] 54 (0, 0))) := ⟨(by rw [hw]; exact (by (with_reducible repeat (first | refine blk_drewN ?_ _ | refine blk_drew ?_ | refine blk_alloc ?_ _)); refine blk_far ?_ NB115_129.out _; (with_reducible repeat (first | refine blk_drewN ?_ _ | refine blk_drew ?_ | refine blk_alloc ?_ _)); refine blk_far ?_ NB115_129.out _; (with_reducible repeat (first | refine blk_drewN ?_ _ | refine blk_drew ?_ | refine blk_alloc ?_ _)); refine blk_far ?_ NB115_129.out _; (with_reducible repeat (first | refine blk_drewN ?_ _ | refine blk_drew ?_ | refine blk_alloc ?_ _)); refine blk_far ?_ NB115_129.out _; (with_reducible repeat (first | refine blk_drewN ?_ _ | refine blk_drew ?_ | refine blk_alloc ?_ _)); exact BK115.out))⟩; have n2_ : Aside0 (w98.heap[gb129]? = some (.cells #[.string x130001_71, .string x130001_71, .bool false, .bool false] 94 (0, 0))) := ⟨(by rw [hw]; exact (by (with_reducible repeat (first | refine blk_drewN ?_ _ | refine blk_drew ?_ | refine blk_alloc ?_ _)); refine blk_put (cs := #[.string x130001_71, .string x130001_71, .bool false, .bool x130003_71]) ?_ 3 _ rfl; (with_reducible repeat (first | refine blk_drewN ?_ _ | refine blk_drew ?_ | refine blk_alloc ?_ _)); refine blk_put (cs := #[.string x130001_71, .string x130001_71, .bool x130002_71, .bool x130003_71]) ?_ 2 _ rfl; (with_reducible repeat (first | refine blk_drewN ?_ _ | refine blk_drew ?_ | refine blk_alloc ?_ _)); refine blk_put (cs := #[.string x130001_71, .string x130001_71, .bool x130002_71, .bool x130003_71]) ?_ 1 _ rfl; (with_reducible repeat (first | refine blk_drewN ?_ _ | refine blk_drew ?_ | refine blk_alloc ?_ _)); refine blk_put (cs := #[.string x130001_71, .string x130001_71, .bool x130002_71, .bool x130003_71]) ?_ 0 _ rfl; (with_reducible repeat (first | refine blk_drewN ?_ _ | refine blk_drew ?_ | refine blk_alloc ?_ _)); exact BK129.out))⟩; have n3_ : Aside0 (Below w.heap.size w w98) := ⟨(by rw [hw]; exact (by repeat (first | (with_reducible first | exact HB.out | apply below_alloc | apply pw_below_drewN | apply below_drew1 | refine below_set ?_ GE115.out | refine below_set ?_ GE129.out) | exact HB.out)))⟩; clear hw; clear HO_10; clear BK115; clear BK129; clear HB; have HO_10 := n0_; have BK115 := n1_; have BK129 := n2_; have HB := n3_; clear n0_ n1_ n2_ n3_; have hcz99_0 : w98.cell? ⟨gb129, 0, none⟩ = some (.string x130001_71) := (blk_cell BK129.out 0).trans rfl; have hcz99_1 : w98.cell? ⟨gb129, 1, none⟩ = some (.string x130001_71) := (blk_cell BK129.out 1).trans rfl; have hcz99_2 : w98.cell? ⟨gb129, 2, none⟩ = some (.bool false) := (blk_cell BK129.out 2).trans rfl; have hcz99_3 : w98.cell? ⟨gb129, 3, none⟩ = some (.bool false) := (blk_cell BK129.out 3).trans rfl; have hfz99_0 := blk_frozen BK129.out 0; have hfz99_1 := blk_frozen BK129.out 1; have hfz99_2 := blk_frozen BK129.out 2; have hfz99_3 := blk_frozen BK129.out 3; have p92 : 0 ≤ (x11_5 : Int) := of_decide_eq_true (by first | (with_reducible assumption) | assumption); have q92 : (x11_5 : Int) < ((x10_5.length : Int) : Int) := of_decide_eq_true (by first | (with_reducible assumption) | assumption); obtain ⟨go92, co92, eo92, gb92, gl92, cl92, HG92⟩ := Kd.R_form HO_10.out (by omega); (first | cases eo92 | (injection eo92 with ea_ en_ ec_; (first | subst ea_ | (injection ea_ with ea_; subst ea_)); subst ec_; clear en_)); have GB92 := Aside0.mk gb92; have GG92 := Aside0.mk HG92; clear gb92 gl92 HG92; (first | simp only [add_plain] at hx128_0 | skip); (first | simp only [add_plain] at hx128_1 | skip); (first | simp only [add_plain] at hx128_2 | skip); (first | simp only [add_plain] at hx128_3 | skip); obtain ⟨ce92, hcl92, hM92, hcc92, hfr92⟩ := Kd.R_elem HO_10.out z94 (x11_5 : Int) p92 q92; obtain rfl := k94_openM hM92; have hx92_0 : w98.cell? ⟨go92, (x11_5 : Int).toNat * 4, none⟩ = some (.string ((rd_T94 x10_5 x11_5).f0)) := hcc92 0 _ rfl; have hx92_1 : w98.cell? ⟨go92, (x11_5 : Int).toNat * 4 + 1, none⟩ = some (.string ((rd_T94 x10_5 x11_5).f1)) := hcc92 1 _ rfl; have hx92_2 : w98.cell? ⟨go92, (x11_5 : Int).toNat * 4 + 2, none⟩ = some (.bool ((rd_T94 x10_5 x11_5).f2)) := hcc92 2 _ rfl; have hx92_3 : w98.cell? ⟨go92, (x11_5 : Int).toNat * 4 + 3, none⟩ = some (.bool ((rd_T94 x10_5 x11_5).f3)) := hcc92 3 _ rfl; have hf92_0 : w98.frozen? ⟨go92, (x11_5 : Int).toNat * 4, none⟩ = false := hfr92 0; have hf92_1 : w98.frozen? ⟨go92, (x11_5 : Int).toNat * 4 + 1, none⟩ = false := hfr92 1; have hf92_2 : w98.frozen? ⟨go92, (x11_5 : Int).toNat * 4 + 2, none⟩ = false := hfr92 2; have hf92_3 : w98.frozen? ⟨go92, (x11_5 : Int).toNat * 4 + 3, none⟩ = false := hfr92 3; clear hcl92 hcc92 hfr92 hM92; replace p92 := eq_true p92; replace q92 := eq_true q92; have HX100 := Aside0.mk (show Kd.R k94 94 w98 w.heap.size (fun k_ => (w.heap.size ≤ k_) ∧ k_ ≠ gb129) (.slice (some ⟨go92, 0, none⟩) x10_5.length co42) x10_5 from (by (with_reducible repeat (first | apply Kd.R_alloc | apply Kd.R_drewN | apply Kd.R_drew)); exact HO_10.out)); obtain ⟨ce100, hcl100, hM100, hcc100, hfr100⟩ := Kd.R_elem HX100.out z94 (x11_5 : Int) (of_decide_eq_true (by first | (with_reducible assumption) | assumption)) (by have h_ : (x11_5 : Int) < ((x10_5.length : Int) : Int) := of_decide_eq_true (by first | (with_reducible assumption) | assumption); first | exact h_ | (have e_ := (Kd.R_reads' HO_10.out).1; omega) | simpa using h_); obtain rfl := k94_openM hM100; have HP100 := Kd.R_seg HX100.out (x11_5 : Int) (of_decide_eq_true (by first | (with_reducible assumption) | assumption)) (by have h_ : (x11_5 : Int) < ((x10_5.length : Int) : Int) := of_decide_eq_true (by first | (with_reducible assumption) | assumption); first | exact h_ | (have e_ := (Kd.R_reads' HO_10.out).1; omega) | simpa using h_) (seg := [.string x130001_71, .string x130001_71, .bool false, .bool false]) (j := 0) hcl100 hcc100 (show 4 ≤ 4 from by decide) (x' := (⟨x130001_71, x130001_71, false, false⟩ : S94)) (k94_mkM _ _ _ (⟨x130001_71, x130001_71, false, false⟩ : S94) ) (fun _ hk => hk); have hx100_0 := hcc100 0 _ rfl; (try simp only [show (k94).sz = 4 from rfl, Nat.mul_one, Nat.add_zero] at hx100_0); have hf100_0 := hfr100 0; (try simp only [show (k94).sz = 4 from rfl, Nat.mul_one, Nat.add_zero] at hf100_0); have hx100_1 := hcc100 1 _ rfl; (try simp only [show (k94).sz = 4 from rfl, Nat.mul_one, Nat.add_zero] at hx100_1); have hf100_1 := hfr100 1; (try simp only [show (k94).sz = 4 from rfl, Nat.mul_one, Nat.add_zero] at hf100_1); have hx100_2 := hcc100 2 _ rfl; (try simp only [show (k94).sz = 4 from rfl, Nat.mul_one, Nat.add_zero] at hx100_2); have hf100_2 := hfr100 2; (try simp only [show (k94).sz = 4 from rfl, Nat.mul_one, Nat.add_zero] at hf100_2); have hx100_3 := hcc100 3 _ rfl; (try simp only [show (k94).sz = 4 from rfl, Nat.mul_one, Nat.add_zero] at hx100_3); have hf100_3 := hfr100 3; (try simp only [show (k94).sz = 4 from rfl, Nat.mul_one, Nat.add_zero] at hf100_3); clear hcl100 hcc100 hfr100 hM100) | ((with_reducible refine gate_store (t := 94) (p := 152) rfl ?_); refine store_event (t := 94) (p := 152) (v := ?vo_w101) (w1 := ((((w98.setCell ⟨go92, (x11_5 : Int).toNat * 4, none⟩ (.string x130001_71)).setCell ⟨go92, (x11_5 : Int).toNat * 4 + 1, none⟩ (.string x130001_71)).setCell ⟨go92, (x11_5 : Int).toNat * 4 + 2, none⟩ (.bool false)).setCell ⟨go92, (x11_5 : Int).toNat * 4 + 3, none⟩ (.bool false))) ?hg ?ho ?hn ?hr ?_; (case ho => rfl); (case hg => rfl); (case hn => rfl); (case hr => first | (go_simp; done) | (go_simp; rfl)); intro w101 hw; have hg : w98.grownBy w101 (some go92) := (by rw [hw]; exact HP100.2); have hp_ : Kd.R k94 94 w101 w.heap.size (fun k_ => (w.heap.size ≤ k_) ∧ k_ ≠ gb129) (.slice (some ⟨go92, 0, none⟩) x10_5.length co42) y131 := (by rw [hw, Ny131.out]; exact HP100.1); clear HP100; have n0_ := Aside0.mk (hp_); have n1_ := Aside0.mk (blk_grown (g := gb115) (o := .cells #[.int .i64 a1_0, .int .i64 a1_1, .int .i64 a1_2, .slice A1_3 l1_3.length c1_3, .slice A1_4 l1_4.length c1_4] 54 (0, 0)) (by (with_reducible repeat (first | refine blk_drewN ?_ _ | refine blk_drew ?_ | refine blk_alloc ?_ _)); exact BK115.out) hg (Kd.R_ne HO_10.out BK115.out (by decide))); have n2_ := Aside0.mk (blk_grown (g := gb129) (o := .cells #[.string x130001_71, .string x130001_71, .bool false, .bool false] 94 (0, 0)) (by (with_reducible repeat (first | refine blk_drewN ?_ _ | refine blk_drew ?_ | refine blk_alloc ?_ _)); exact BK129.out) hg (Kd.R_away HO_10.out (fun _ hk => hk.2))); have n3_ := Aside0.mk ((by rw [hw]; exact below_set (below_set (below_set (below_set (HB.out) GB92.out) GB92.out) GB92.out) GB92.out : Below w.heap.size w w101)); clear HO_10; clear BK115; clear BK129; clear HB; have HO_10 := n0_; have BK115 := n1_; have BK129 := n2_; have HB := n3_; clear n0_ n1_ n2_ n3_; clear hg hw hp_))
                            go_roundg kj75
                            case measure => have := HJ2.out; have := HJ7.out; have := HJ11.out; have := HJ17.out; have := HK5.out; have := HJ40.out; have := HJ60.out; have := HJ64.out; have := HJ71.out; have := HJ75.out; omega
                            case rel => exact ⟨(y131), (wrap64 (x11_5 + 1)), (by first | rfl | (simp; done) | (simp [*]; done)), H', ⟨by have := HJ2.out; have := HJ7.out; have := HJ11.out; have := HJ17.out; have := HK5.out; have := HJ40.out; have := HJ60.out; have := HJ64.out; have := HJ71.out; have := HJ75.out; omega⟩, ⟨by (with_reducible repeat (first | apply Kd.R_alloc | apply Kd.R_drewN | apply Kd.R_drew)); exact Kd.R_mono HO_10.out (fun _ hk => hk.1)⟩, ⟨by (with_reducible repeat (first | refine blk_drewN ?_ _ | refine blk_drew ?_ | refine blk_alloc ?_ _)); exact BK115.out⟩, ⟨by repeat (first | (with_reducible first | exact HB.out | apply below_alloc | apply pw_below_drewN | apply below_drew1 | refine below_set ?_ GE115.out | refine below_set ?_ GE129.out) | exact HB.out)⟩⟩
                           ·rw [if_neg c91] at H
                            exact absurd H (by simp)
                          ·rw [if_neg c90] at H
                           exact absurd H (by simp)
                         ·rw [if_neg c89] at H
                          have c89b0 : (a1_0 == 4) = false := beq_eq_false_iff_ne.mpr c89
                          have c89b1 : (a1_0 != 4) = true := bne_iff_ne.mpr c89
                          by_cases c102 : 0 ≤ x11_5
                          ·rw [if_pos c102] at H
                           have c102b0 : decide (0 ≤ x11_5) = true := decide_eq_true c102
                           clear c102
                           by_cases c103 : x11_5 < (x10_5.length : Int)
                           ·rw [if_pos c103] at H
                            have c103b0 : decide (x11_5 < (x10_5.length : Int)) = true := decide_eq_true c103
                            clear c103
                            obtain ⟨y132, hy132⟩ : ∃ y_ : List (S94), y_ = (x10_5.set (x11_5 : Int).toNat (⟨x130001_71, x130001_71, x130002_71, x130003_71⟩ : S94)) := ⟨_, rfl⟩
                            replace H : (ecdysisref03_Do.l1 kj75 x7_2 y132 (wrap64 (x11_5 + 1)) a1_0 a1_1 a1_2 l1_3 l1_4) = some (r1, r2, r3) := by first | (rw [hy132]; with_reducible exact H) | (have H2_ := (Option.bind_some _ _).symm.trans H; rw [hy132]; with_reducible exact H2_) | (have H2_ := (Option.bind_some _ _).symm.trans H; with_reducible exact H2_) | with_reducible exact H | (rw [hy132]; exact H) | exact H
                            have Ny132 := Aside0.mk hy132
                            clear hy132
                            have H' := Aside0.mk H
                            clear H
                            have hnb105 := NB129_115.out
                            have hnc105 := NB115_129.out
                            have hcz106_0 : wc.cell? ⟨gb129, 0, none⟩ = some (.string x130000_71) := (blk_cell BK129.out 0).trans rfl
                            have hcz106_1 : wc.cell? ⟨gb129, 1, none⟩ = some (.string x130001_71) := (blk_cell BK129.out 1).trans rfl
                            have hcz106_2 : wc.cell? ⟨gb129, 2, none⟩ = some (.bool x130002_71) := (blk_cell BK129.out 2).trans rfl
                            have hcz106_3 : wc.cell? ⟨gb129, 3, none⟩ = some (.bool x130003_71) := (blk_cell BK129.out 3).trans rfl
                            have hfz106_0 := blk_frozen BK129.out 0
                            have hfz106_1 := blk_frozen BK129.out 1
                            have hfz106_2 := blk_frozen BK129.out 2
                            have hfz106_3 := blk_frozen BK129.out 3
                            go_wp2_with (first | ((with_reducible refine gate_store (t := 9) (p := 140) rfl ?_); refine store_event (t := 9) (p := 140) (v := ?vo_w107) (w1 := (wc.setCell ⟨gb129, 0, none⟩ (.string x130001_71))) ?hg ?ho ?hn ?hr ?_; (case ho => rfl); (case hg => rfl); (case hn => rfl); (case hr => first | (go_simp; done) | (go_simp; rfl)); intro w107 hw; have n0_ : Aside0 (Kd.R k94 94 w107 w.heap.size (fun k_ => (w.heap.size ≤ k_) ∧ k_ ≠ gb129) (.slice (some ad128) x10_5.length co42) x10_5) := ⟨(by rw [hw]; exact (by (with_reducible repeat (first | apply Kd.R_alloc | apply Kd.R_drewN | apply Kd.R_drew)); exact Kd.R_mono (Kd.R_far (p := ⟨gb129, 0, none⟩) (Kd.R_mono HO_10.out (fun k_ hk => (⟨hk, hk.2⟩ : _ ∧ k_ ≠ gb129))) (fun _ hk => hk.2) (.string x130001_71)) (fun _ hk => ⟨hk.1.1, hk.1.2⟩)))⟩; have n1_ : Aside0 (w107.heap[gb115]? = some (.cells #[.int .i64 a1_0, .int .i64 a1_1, .int .i64 a1_2, .slice A1_3 l1_3.length c1_3, .slice A1_4 l1_4.length c1_4] 54 (0, 0))) := ⟨(by rw [hw]; exact (by (with_reducible repeat (first | refine blk_drewN ?_ _ | refine blk_drew ?_ | refine blk_alloc ?_ _)); refine blk_far ?_ NB115_129.out _; (with_reducible repeat (first | refine blk_drewN ?_ _ | refine blk_drew ?_ | refine blk_alloc ?_ _)); exact BK115.out))⟩; have n2_ : Aside0 (w107.heap[gb129]? = some (.cells #[.string x130001_71, .string x130001_71, .bool x130002_71, .bool x130003_71] 94 (0, 0))) := ⟨(by rw [hw]; exact (by (with_reducible repeat (first | refine blk_drewN ?_ _ | refine blk_drew ?_ | refine blk_alloc ?_ _)); refine blk_put (cs := #[.string x130000_71, .string x130001_71, .bool x130002_71, .bool x130003_71]) ?_ 0 _ rfl; (with_reducible repeat (first | refine blk_drewN ?_ _ | refine blk_drew ?_ | refine blk_alloc ?_ _)); exact BK129.out))⟩; have n3_ : Aside0 (Below w.heap.size w w107) := ⟨(by rw [hw]; exact (by repeat (first | (with_reducible first | exact HB.out | apply below_alloc | apply pw_below_drewN | apply below_drew1 | refine below_set ?_ GE115.out | refine below_set ?_ GE129.out) | exact HB.out)))⟩; clear hw; clear HO_10; clear BK115; clear BK129; clear HB; have HO_10 := n0_; have BK115 := n1_; have BK129 := n2_; have HB := n3_; clear n0_ n1_ n2_ n3_; have hcz108_0 : w107.cell? ⟨gb115, 0, none⟩ = some (.int .i64 a1_0) := (blk_cell BK115.out 0).trans rfl; have hcz108_1 : w107.cell? ⟨gb115, 1, none⟩ = some (.int .i64 a1_1) := (blk_cell BK115.out 1).trans rfl; have hcz108_2 : w107.cell? ⟨gb115, 2, none⟩ = some (.int .i64 a1_2) := (blk_cell BK115.out 2).trans rfl; have hcz108_3 : w107.cell? ⟨gb115, 3, none⟩ = some (.slice A1_3 l1_3.length c1_3) := (blk_cell BK115.out 3).trans rfl; have hcz108_4 : w107.cell? ⟨gb115, 4, none⟩ = some (.slice A1_4 l1_4.length c1_4) := (blk_cell BK115.out 4).trans rfl; have hfz108_0 := blk_frozen BK115.out 0; have hfz108_1 := blk_frozen BK115.out 1; have hfz108_2 := blk_frozen BK115.out 2; have hfz108_3 := blk_frozen BK115.out 3; have hfz108_4 := blk_frozen BK115.out 4; have hcz109_0 : w107.cell? ⟨gb129, 0, none⟩ = some (.string x130001_71) := (blk_cell BK129.out 0).trans rfl; have hcz109_1 : w107.cell? ⟨gb129, 1, none⟩ = some (.string x130001_71) := (blk_cell BK129.out 1).trans rfl; have hcz109_2 : w107.cell? ⟨gb129, 2, none⟩ = some (.bool x130002_71) := (blk_cell BK129.out 2).trans rfl; have hcz109_3 : w107.cell? ⟨gb129, 3, none⟩ = some (.bool x130003_71) := (blk_cell BK129.out 3).trans rfl; have hfz109_0 := blk_frozen BK129.out 0; have hfz109_1 := blk_frozen BK129.out 1; have hfz109_2 := blk_frozen BK129.out 2; have hfz109_3 := blk_frozen BK129.out 3; have p104 : 0 ≤ (x11_5 : Int) := of_decide_eq_true (by first | (with_reducible assumption) | assumption); have q104 : (x11_5 : Int) < ((x10_5.length : Int) : Int) := of_decide_eq_true (by first | (with_reducible assumption) | assumption); obtain ⟨go104, co104, eo104, gb104, gl104, cl104, HG104⟩ := Kd.R_form HO_10.out (by omega); (first | cases eo104 | (injection eo104 with ea_ en_ ec_; (first | subst ea_ | (injection ea_ with ea_; subst ea_)); subst ec_; clear en_)); have GB104 := Aside0.mk gb104; have GG104 := Aside0.mk HG104; clear gb104 gl104 HG104; obtain ⟨ce104, hcl104, hM104, hcc104, hfr104⟩ := Kd.R_elem HO_10.out z94 (x11_5 : Int) p104 q104; obtain rfl := k94_openM hM104; have hx104_0 : w107.cell? ⟨go104, (x11_5 : Int).toNat * 4, none⟩ = some (.string ((rd_T94 x10_5 x11_5).f0)) := hcc104 0 _ rfl; have hx104_1 : w107.cell? ⟨go104, (x11_5 : Int).toNat * 4 + 1, none⟩ = some (.string ((rd_T94 x10_5 x11_5).f1)) := hcc104 1 _ rfl; have hx104_2 : w107.cell? ⟨go104, (x11_5 : Int).toNat * 4 + 2, none⟩ = some (.bool ((rd_T94 x10_5 x11_5).f2)) := hcc104 2 _ rfl; have hx104_3 : w107.cell? ⟨go104, (x11_5 : Int).toNat * 4 + 3, none⟩ = some (.bool ((rd_T94 x10_5 x11_5).f3)) := hcc104 3 _ rfl; have hf104_0 : w107.frozen? ⟨go104, (x11_5 : Int).toNat * 4, none⟩ = false := hfr104 0; have hf104_1 : w107.frozen? ⟨go104, (x11_5 : Int).toNat * 4 + 1, none⟩ = false := hfr104 1; have hf104_2 : w107.frozen? ⟨go104, (x11_5 : Int).toNat * 4 + 2, none⟩ = false := hfr104 2; have hf104_3 : w107.frozen? ⟨go104, (x11_5 : Int).toNat * 4 + 3, none⟩ = false := hfr104 3; clear hcl104 hcc104 hfr104 hM104; replace p104 := eq_true p104; replace q104 := eq_true q104; have HX110 := Aside0.mk (show Kd.R k94 94 w107 w.heap.size (fun k_ => (w.heap.size ≤ k_) ∧ k_ ≠ gb129) (.slice (some ⟨go104, 0, none⟩) x10_5.length co42) x10_5 from (by (with_reducible repeat (first | apply Kd.R_alloc | apply Kd.R_drewN | apply Kd.R_drew)); exact HO_10.out)); obtain ⟨ce110, hcl110, hM110, hcc110, hfr110⟩ := Kd.R_elem HX110.out z94 (x11_5 : Int) (of_decide_eq_true (by first | (with_reducible assumption) | assumption)) (by have h_ : (x11_5 : Int) < ((x10_5.length : Int) : Int) := of_decide_eq_true (by first | (with_reducible assumption) | assumption); first | exact h_ | (have e_ := (Kd.R_reads' HO_10.out).1; omega) | simpa using h_); obtain rfl := k94_openM hM110; have HP110 := Kd.R_seg HX110.out (x11_5 : Int) (of_decide_eq_true (by first | (with_reducible assumption) | assumption)) (by have h_ : (x11_5 : Int) < ((x10_5.length : Int) : Int) := of_decide_eq_true (by first | (with_reducible assumption) | assumption); first | exact h_ | (have e_ := (Kd.R_reads' HO_10.out).1; omega) | simpa using h_) (seg := [.string x130001_71, .string x130001_71, .bool x130002_71, .bool x130003_71]) (j := 0) hcl110 hcc110 (show 4 ≤ 4 from by decide) (x' := (⟨x130001_71, x130001_71, x130002_71, x130003_71⟩ : S94)) (k94_mkM _ _ _ (⟨x130001_71, x130001_71, x130002_71, x130003_71⟩ : S94) ) (fun _ hk => hk); have hx110_0 := hcc110 0 _ rfl; (try simp only [show (k94).sz = 4 from rfl, Nat.mul_one, Nat.add_zero] at hx110_0); have hf110_0 := hfr110 0; (try simp only [show (k94).sz = 4 from rfl, Nat.mul_one, Nat.add_zero] at hf110_0); have hx110_1 := hcc110 1 _ rfl; (try simp only [show (k94).sz = 4 from rfl, Nat.mul_one, Nat.add_zero] at hx110_1); have hf110_1 := hfr110 1; (try simp only [show (k94).sz = 4 from rfl, Nat.mul_one, Nat.add_zero] at hf110_1); have hx110_2 := hcc110 2 _ rfl; (try simp only [show (k94).sz = 4 from rfl, Nat.mul_one, Nat.add_zero] at hx110_2); have hf110_2 := hfr110 2; (try simp only [show (k94).sz = 4 from rfl, Nat.mul_one, Nat.add_zero] at hf110_2); have hx110_3 := hcc110 3 _ rfl; (try simp only [show (k94).sz = 4 from rfl, Nat.mul_one, Nat.add_zero] at hx110_3); have hf110_3 := hfr110 3; (try simp only [show (k94).sz = 4 from rfl, Nat.mul_one, Nat.add_zero] at hf110_3); clear hcl110 hcc110 hfr110 hM110) | ((with_reducible refine gate_store (t := 94) (p := 152) rfl ?_); refine store_event (t := 94) (p := 152) (v := ?vo_w111) (w1 := ((((w107.setCell ⟨go104, (x11_5 : Int).toNat * 4, none⟩ (.string x130001_71)).setCell ⟨go104, (x11_5 : Int).toNat * 4 + 1, none⟩ (.string x130001_71)).setCell ⟨go104, (x11_5 : Int).toNat * 4 + 2, none⟩ (.bool x130002_71)).setCell ⟨go104, (x11_5 : Int).toNat * 4 + 3, none⟩ (.bool x130003_71))) ?hg ?ho ?hn ?hr ?_; (case ho => rfl); (case hg => rfl); (case hn => rfl); (case hr => first | (go_simp; done) | (go_simp; rfl)); intro w111 hw; have hg : w107.grownBy w111 (some go104) := (by rw [hw]; exact HP110.2); have hp_ : Kd.R k94 94 w111 w.heap.size (fun k_ => (w.heap.size ≤ k_) ∧ k_ ≠ gb129) (.slice (some ⟨go104, 0, none⟩) x10_5.length co42) y132 := (by rw [hw, Ny132.out]; exact HP110.1); clear HP110; have n0_ := Aside0.mk (hp_); have n1_ := Aside0.mk (blk_grown (g := gb115) (o := .cells #[.int .i64 a1_0, .int .i64 a1_1, .int .i64 a1_2, .slice A1_3 l1_3.length c1_3, .slice A1_4 l1_4.length c1_4] 54 (0, 0)) (by (with_reducible repeat (first | refine blk_drewN ?_ _ | refine blk_drew ?_ | refine blk_alloc ?_ _)); exact BK115.out) hg (Kd.R_ne HO_10.out BK115.out (by decide))); have n2_ := Aside0.mk (blk_grown (g := gb129) (o := .cells #[.string x130001_71, .string x130001_71, .bool x130002_71, .bool x130003_71] 94 (0, 0)) (by (with_reducible repeat (first | refine blk_drewN ?_ _ | refine blk_drew ?_ | refine blk_alloc ?_ _)); exact BK129.out) hg (Kd.R_away HO_10.out (fun _ hk => hk.2))); have n3_ := Aside0.mk ((by rw [hw]; exact below_set (below_set (below_set (below_set (HB.out) GB104.out) GB104.out) GB104.out) GB104.out : Below w.heap.size w w111)); clear HO_10; clear BK115; clear BK129; clear HB; have HO_10 := n0_; have BK115 := n1_; have BK129 := n2_; have HB := n3_; clear n0_ n1_ n2_ n3_; clear hg hw hp_))
                            go_roundg kj75
                            case measure => have := HJ2.out; have := HJ7.out; have := HJ11.out; have := HJ17.out; have := HK5.out; have := HJ40.out; have := HJ60.out; have := HJ64.out; have := HJ71.out; have := HJ75.out; omega
                            case rel => exact ⟨(y132), (wrap64 (x11_5 + 1)), (by first | rfl | (simp; done) | (simp [*]; done)), H', ⟨by have := HJ2.out; have := HJ7.out; have := HJ11.out; have := HJ17.out; have := HK5.out; have := HJ40.out; have := HJ60.out; have := HJ64.out; have := HJ71.out; have := HJ75.out; omega⟩, ⟨by (with_reducible repeat (first | apply Kd.R_alloc | apply Kd.R_drewN | apply Kd.R_drew)); exact Kd.R_mono HO_10.out (fun _ hk => hk.1)⟩, ⟨by (with_reducible repeat (first | refine blk_drewN ?_ _ | refine blk_drew ?_ | refine blk_alloc ?_ _)); exact BK115.out⟩, ⟨by repeat (first | (with_reducible first | exact HB.out | apply below_alloc | apply pw_below_drewN | apply below_drew1 | refine below_set ?_ GE115.out | refine below_set ?_ GE129.out) | exact HB.out)⟩⟩
                           ·rw [if_neg c103] at H
                            exact absurd H (by simp)
                          ·rw [if_neg c102] at H
                           exact absurd H (by simp)
                        ·replace c88 := Bool.eq_false_iff.mpr c88
                         subst c88
                         have H1 : (if a1_0 = 4 then (if 0 ≤ x11_5 then (if x11_5 < (x10_5.length : Int) then (ecdysisref03_Do.l1 kj75 x7_2 (x10_5.set (x11_5 : Int).toNat (⟨x130000_71, x130000_71, false, false⟩ : S94)) (wrap64 (x11_5 + 1)) a1_0 a1_1 a1_2 l1_3 l1_4) else (none)) else (none)) else (if 0 ≤ x11_5 then (if x11_5 < (x10_5.length : Int) then (ecdysisref03_Do.l1 kj75 x7_2 (x10_5.set (x11_5 : Int).toNat (⟨x130000_71, x130001_71, x130002_71, x130003_71⟩ : S94)) (wrap64 (x11_5 + 1)) a1_0 a1_1 a1_2 l1_3 l1_4) else (none)) else (none))) = some (r1, r2, r3) := by rw [if_neg (show ¬ (false = true) by decide)] at H; exact H
                         clear H
                         have H := H1
                         clear H1
                         by_cases c112 : a1_0 = 4
                         ·rw [if_pos c112] at H
                          have c112b0 : (a1_0 == 4) = true := beq_iff_eq.mpr c112
                          have c112b1 : (a1_0 != 4) = false := bne_eq_false_iff_eq.mpr c112
                          clear c112
                          by_cases c113 : 0 ≤ x11_5
                          ·rw [if_pos c113] at H
                           have c113b0 : decide (0 ≤ x11_5) = true := decide_eq_true c113
                           clear c113
                           by_cases c114 : x11_5 < (x10_5.length : Int)
                           ·rw [if_pos c114] at H
                            have c114b0 : decide (x11_5 < (x10_5.length : Int)) = true := decide_eq_true c114
                            clear c114
                            obtain ⟨y133, hy133⟩ : ∃ y_ : List (S94), y_ = (x10_5.set (x11_5 : Int).toNat (⟨x130000_71, x130000_71, false, false⟩ : S94)) := ⟨_, rfl⟩
                            replace H : (ecdysisref03_Do.l1 kj75 x7_2 y133 (wrap64 (x11_5 + 1)) a1_0 a1_1 a1_2 l1_3 l1_4) = some (r1, r2, r3) := by first | (rw [hy133]; with_reducible exact H) | (have H2_ := (Option.bind_some _ _).symm.trans H; rw [hy133]; with_reducible exact H2_) | (have H2_ := (Option.bind_some _ _).symm.trans H; with_reducible exact H2_) | with_reducible exact H | (rw [hy133]; exact H) | exact H
                            have Ny133 := Aside0.mk hy133
                            clear hy133
                            have H' := Aside0.mk H
                            clear H
                            have hnb116 := NB115_129.out
                            have hnc116 := NB129_115.out
                            have hcz117_0 : wc.cell? ⟨gb115, 0, none⟩ = some (.int .i64 a1_0) := (blk_cell BK115.out 0).trans rfl
                            have hcz117_1 : wc.cell? ⟨gb115, 1, none⟩ = some (.int .i64 a1_1) := (blk_cell BK115.out 1).trans rfl
                            have hcz117_2 : wc.cell? ⟨gb115, 2, none⟩ = some (.int .i64 a1_2) := (blk_cell BK115.out 2).trans rfl
                            have hcz117_3 : wc.cell? ⟨gb115, 3, none⟩ = some (.slice A1_3 l1_3.length c1_3) := (blk_cell BK115.out 3).trans rfl
                            have hcz117_4 : wc.cell? ⟨gb115, 4, none⟩ = some (.slice A1_4 l1_4.length c1_4) := (blk_cell BK115.out 4).trans rfl
                            have hfz117_0 := blk_frozen BK115.out 0
                            have hfz117_1 := blk_frozen BK115.out 1
                            have hfz117_2 := blk_frozen BK115.out 2
                            have hfz117_3 := blk_frozen BK115.out 3
                            have hfz117_4 := blk_frozen BK115.out 4
                            have hcz118_0 : wc.cell? ⟨gb129, 0, none⟩ = some (.string x130000_71) := (blk_cell BK129.out 0).trans rfl
                            have hcz118_1 : wc.cell? ⟨gb129, 1, none⟩ = some (.string x130001_71) := (blk_cell BK129.out 1).trans rfl
                            have hcz118_2 : wc.cell? ⟨gb129, 2, none⟩ = some (.bool x130002_71) := (blk_cell BK129.out 2).trans rfl
                            have hcz118_3 : wc.cell? ⟨gb129, 3, none⟩ = some (.bool x130003_71) := (blk_cell BK129.out 3).trans rfl
                            have hfz118_0 := blk_frozen BK129.out 0
                            have hfz118_1 := blk_frozen BK129.out 1
                            have hfz118_2 := blk_frozen BK129.out 2
                            have hfz118_3 := blk_frozen BK129.out 3
                            go_wp2_with (first | ((with_reducible refine gate_store (t := 94) (p := 12) rfl ?_); refine store_event (t := 94) (p := 12) (v := ?vo_w119) (w1 := ((((wc.setCell ⟨gb129, 0, none⟩ (.string x130000_71)).setCell ⟨gb129, 1, none⟩ (.string x130000_71)).setCell ⟨gb129, 2, none⟩ (.bool false)).setCell ⟨gb129, 3, none⟩ (.bool false))) ?hg ?ho ?hn ?hr ?_; (case ho => rfl); (case hg => rfl); (case hn => rfl); (case hr => first | (go_simp; done) | (go_simp; rfl)); intro w119 hw; have n0_ : Aside0 (Kd.R k94 94 w119 w.heap.size (fun k_ => (w.heap.size ≤ k_) ∧ k_ ≠ gb129) (.slice (some ad128) x10_5.length co42) x10_5) := ⟨(by rw [hw]; exact (by (with_reducible repeat (first | apply Kd.R_alloc | apply Kd.R_drewN | apply Kd.R_drew)); exact Kd.R_mono (Kd.R_far (p := ⟨gb129, 3, none⟩) (Kd.R_far (p := ⟨gb129, 2, none⟩) (Kd.R_far (p := ⟨gb129, 1, none⟩) (Kd.R_far (p := ⟨gb129, 0, none⟩) (Kd.R_mono HO_10.out (fun k_ hk => (⟨hk, hk.2⟩ : _ ∧ k_ ≠ gb129))) (fun _ hk => hk.2) (.string x130000_71)) (fun _ hk => hk.2) (.string x130000_71)) (fun _ hk => hk.2) (.bool false)) (fun _ hk => hk.2) (.bool false)) (fun _ hk => ⟨hk.1.1, hk.1.2⟩)))⟩; have n1_ : Aside0 (w119.heap[gb115]? = some (.cells #[.int .i64 a1_0, .int .i64 a1_1, .int .i64 a1_2, .slice A1_3 l1_3.length c1_3, .slice A1_4 l1_4.length c1_4] 54 (0, 0))) := ⟨(by rw [hw]; exact (by (with_reducible repeat (first | refine blk_drewN ?_ _ | refine blk_drew ?_ | refine blk_alloc ?_ _)); refine blk_far ?_ NB115_129.out _; (with_reducible repeat (first | refine blk_drewN ?_ _ | refine blk_drew ?_ | refine blk_alloc ?_ _)); refine blk_far ?_ NB115_129.out _; (with_reducible repeat (first | refine blk_drewN ?_ _ | refine blk_drew ?_ | refine blk_alloc ?_ _)); refine blk_far ?_ NB115_129.out _; (with_reducible repeat (first | refine blk_drewN ?_ _ | refine blk_drew ?_ | refine blk_alloc ?_ _)); refine blk_far ?_ NB115_129.out _; (with_reducible repeat (first | refine blk_drewN ?_ _ | refine blk_drew ?_ | refine blk_alloc ?_ _)); exact BK115.out))⟩; have n2_ : Aside0 (w119.heap[gb129]? = some (.cells #[.string x130000_71, .string x130000_71, .bool false, .bool false] 94 (0, 0))) := ⟨(by rw [hw]; exact (by (with_reducible repeat (first | refine blk_drewN ?_ _ | refine blk_drew ?_ | refine blk_alloc ?_ _)); refine blk_put (cs := #[.string x130000_71, .string x130000_71, .bool false, .bool x130003_71]) ?_ 3 _ rfl; (with_reducible repeat (first | refine blk_drewN ?_ _ | refine blk_drew ?_ | refine blk_alloc ?_ _)); refine blk_put (cs := #[.string x130000_71, .string x130000_71, .bool x130002_71, .bool x130003_71]) ?_ 2 _ rfl; (with_reducible repeat (first | refine blk_drewN ?_ _ | refine blk_drew ?_ | refine blk_alloc ?_ _)); refine blk_put (cs := #[.string x130000_71, .string x130001_71, .bool x130002_71, .bool x130003_71]) ?_ 1 _ rfl; (with_reducible repeat (first | refine blk_drewN ?_ _ | refine blk_drew ?_ | refine blk_alloc ?_ _)); refine blk_put (cs := #[.string x130000_71, .string x130001_71, .bool x130002_71, .bool x130003_71]) ?_ 0 _ rfl; (with_reducible repeat (first | refine blk_drewN ?_ _ | refine blk_drew ?_ | refine blk_alloc ?_ _)); exact BK129.out))⟩; have n3_ : Aside0 (Below w.heap.size w w119) := ⟨(by rw [hw]; exact (by repeat (first | (with_reducible first | exact HB.out | apply below_alloc | apply pw_below_drewN | apply below_drew1 | refine below_set ?_ GE115.out | refine below_set ?_ GE129.out) | exact HB.out)))⟩; clear hw; clear HO_10; clear BK115; clear BK129; clear HB; have HO_10 := n0_; have BK115 := n1_; have BK129 := n2_; have HB := n3_; clear n0_ n1_ n2_ n3_; have hcz120_0 : w119.cell? ⟨gb129, 0, none⟩ = some (.string x130000_71) := (blk_cell BK129.out 0).trans rfl; have hcz120_1 : w119.cell? ⟨gb129, 1, none⟩ = some (.string x130000_71) := (blk_cell BK129.out 1).trans rfl; have hcz120_2 : w119.cell? ⟨gb129, 2, none⟩ = some (.bool false) := (blk_cell BK129.out 2).trans rfl; have hcz120_3 : w119.cell? ⟨gb129, 3, none⟩ = some (.bool false) := (blk_cell BK129.out 3).trans rfl; have hfz120_0 := blk_frozen BK129.out 0; have hfz120_1 := blk_frozen BK129.out 1; have hfz120_2 := blk_frozen BK129.out 2; have hfz120_3 := blk_frozen BK129.out 3; have p115 : 0 ≤ (x11_5 : Int) := of_decide_eq_true (by first | (with_reducible assumption) | assumption); have q115 : (x11_5 : Int) < ((x10_5.length : Int) : Int) := of_decide_eq_true (by first | (with_reducible assumption) | assumption); obtain ⟨go115, co115, eo115, gb115, gl115, cl115, HG115⟩ := Kd.R_form HO_10.out (by omega); (first | cases eo115 | (injection eo115 with ea_ en_ ec_; (first | subst ea_ | (injection ea_ with ea_; subst ea_)); subst ec_; clear en_)); have GB115 := Aside0.mk gb115; have GG115 := Aside0.mk HG115; clear gb115 gl115 HG115; obtain ⟨ce115, hcl115, hM115, hcc115, hfr115⟩ := Kd.R_elem HO_10.out z94 (x11_5 : Int) p115 q115; obtain rfl := k94_openM hM115; have hx115_0 : w119.cell? ⟨go115, (x11_5 : Int).toNat * 4, none⟩ = some (.string ((rd_T94 x10_5 x11_5).f0)) := hcc115 0 _ rfl; have hx115_1 : w119.cell? ⟨go115, (x11_5 : Int).toNat * 4 + 1, none⟩ = some (.string ((rd_T94 x10_5 x11_5).f1)) := hcc115 1 _ rfl; have hx115_2 : w119.cell? ⟨go115, (x11_5 : Int).toNat * 4 + 2, none⟩ = some (.bool ((rd_T94 x10_5 x11_5).f2)) := hcc115 2 _ rfl; have hx115_3 : w119.cell? ⟨go115, (x11_5 : Int).toNat * 4 + 3, none⟩ = some (.bool ((rd_T94 x10_5 x11_5).f3)) := hcc115 3 _ rfl; have hf115_0 : w119.frozen? ⟨go115, (x11_5 : Int).toNat * 4, none⟩ = false := hfr115 0; have hf115_1 : w119.frozen? ⟨go115, (x11_5 : Int).toNat * 4 + 1, none⟩ = false := hfr115 1; have hf115_2 : w119.frozen? ⟨go115, (x11_5 : Int).toNat * 4 + 2, none⟩ = false := hfr115 2; have hf115_3 : w119.frozen? ⟨go115, (x11_5 : Int).toNat * 4 + 3, none⟩ = false := hfr115 3; clear hcl115 hcc115 hfr115 hM115; replace p115 := eq_true p115; replace q115 := eq_true q115; have HX121 := Aside0.mk (show Kd.R k94 94 w119 w.heap.size (fun k_ => (w.heap.size ≤ k_) ∧ k_ ≠ gb129) (.slice (some ⟨go115, 0, none⟩) x10_5.length co42) x10_5 from (by (with_reducible repeat (first | apply Kd.R_alloc | apply Kd.R_drewN | apply Kd.R_drew)); exact HO_10.out)); obtain ⟨ce121, hcl121, hM121, hcc121, hfr121⟩ := Kd.R_elem HX121.out z94 (x11_5 : Int) (of_decide_eq_true (by first | (with_reducible assumption) | assumption)) (by have h_ : (x11_5 : Int) < ((x10_5.length : Int) : Int) := of_decide_eq_true (by first | (with_reducible assumption) | assumption); first | exact h_ | (have e_ := (Kd.R_reads' HO_10.out).1; omega) | simpa using h_); obtain rfl := k94_openM hM121; have HP121 := Kd.R_seg HX121.out (x11_5 : Int) (of_decide_eq_true (by first | (with_reducible assumption) | assumption)) (by have h_ : (x11_5 : Int) < ((x10_5.length : Int) : Int) := of_decide_eq_true (by first | (with_reducible assumption) | assumption); first | exact h_ | (have e_ := (Kd.R_reads' HO_10.out).1; omega) | simpa using h_) (seg := [.string x130000_71, .string x130000_71, .bool false, .bool false]) (j := 0) hcl121 hcc121 (show 4 ≤ 4 from by decide) (x' := (⟨x130000_71, x130000_71, false, false⟩ : S94)) (k94_mkM _ _ _ (⟨x130000_71, x130000_71, false, false⟩ : S94) ) (fun _ hk => hk); have hx121_0 := hcc121 0 _ rfl; (try simp only [show (k94).sz = 4 from rfl, Nat.mul_one, Nat.add_zero] at hx121_0); have hf121_0 := hfr121 0; (try simp only [show (k94).sz = 4 from rfl, Nat.mul_one, Nat.add_zero] at hf121_0); have hx121_1 := hcc121 1 _ rfl; (try simp only [show (k94).sz = 4 from rfl, Nat.mul_one, Nat.add_zero] at hx121_1); have hf121_1 := hfr121 1; (try simp only [show (k94).sz = 4 from rfl, Nat.mul_one, Nat.add_zero] at hf121_1); have hx121_2 := hcc121 2 _ rfl; (try simp only [show (k94).sz = 4 from rfl, Nat.mul_one, Nat.add_zero] at hx121_2); have hf121_2 := hfr121 2; (try simp only [show (k94).sz = 4 from rfl, Nat.mul_one, Nat.add_zero] at hf121_2); have hx121_3 := hcc121 3 _ rfl; (try simp only [show (k94).sz = 4 from rfl, Nat.mul_one, Nat.add_zero] at hx121_3); have hf121_3 := hfr121 3; (try simp only [show (k94).sz = 4 from rfl, Nat.mul_one, Nat.add_zero] at hf121_3); clear hcl121 hcc121 hfr121 hM121) | ((with_reducible refine gate_store (t := 94) (p := 152) rfl ?_); refine store_event (t := 94) (p := 152) (v := ?vo_w122) (w1 := ((((w119.setCell ⟨go115, (x11_5 : Int).toNat * 4, none⟩ (.string x130000_71)).setCell ⟨go115, (x11_5 : Int).toNat * 4 + 1, none⟩ (.string x130000_71)).setCell ⟨go115, (x11_5 : Int).toNat * 4 + 2, none⟩ (.bool false)).setCell ⟨go115, (x11_5 : Int).toNat * 4 + 3, none⟩ (.bool false))) ?hg ?ho ?hn ?hr ?_; (case ho => rfl); (case hg => rfl); (case hn => rfl); (case hr => first | (go_simp; done) | (go_simp; rfl)); intro w122 hw; have hg : w119.grownBy w122 (some go115) := (by rw [hw]; exact HP121.2); have hp_ : Kd.R k94 94 w122 w.heap.size (fun k_ => (w.heap.size ≤ k_) ∧ k_ ≠ gb129) (.slice (some ⟨go115, 0, none⟩) x10_5.length co42) y133 := (by rw [hw, Ny133.out]; exact HP121.1); clear HP121; have n0_ := Aside0.mk (hp_); have n1_ := Aside0.mk (blk_grown (g := gb115) (o := .cells #[.int .i64 a1_0, .int .i64 a1_1, .int .i64 a1_2, .slice A1_3 l1_3.length c1_3, .slice A1_4 l1_4.length c1_4] 54 (0, 0)) (by (with_reducible repeat (first | refine blk_drewN ?_ _ | refine blk_drew ?_ | refine blk_alloc ?_ _)); exact BK115.out) hg (Kd.R_ne HO_10.out BK115.out (by decide))); have n2_ := Aside0.mk (blk_grown (g := gb129) (o := .cells #[.string x130000_71, .string x130000_71, .bool false, .bool false] 94 (0, 0)) (by (with_reducible repeat (first | refine blk_drewN ?_ _ | refine blk_drew ?_ | refine blk_alloc ?_ _)); exact BK129.out) hg (Kd.R_away HO_10.out (fun _ hk => hk.2))); have n3_ := Aside0.mk ((by rw [hw]; exact below_set (below_set (below_set (below_set (HB.out) GB115.out) GB115.out) GB115.out) GB115.out : Below w.heap.size w w122)); clear HO_10; clear BK115; clear BK129; clear HB; have HO_10 := n0_; have BK115 := n1_; have BK129 := n2_; have HB := n3_; clear n0_ n1_ n2_ n3_; clear hg hw hp_))
                            go_roundg kj75
                            case measure => have := HJ2.out; have := HJ7.out; have := HJ11.out; have := HJ17.out; have := HK5.out; have := HJ40.out; have := HJ60.out; have := HJ64.out; have := HJ71.out; have := HJ75.out; omega
                            case rel => exact ⟨(y133), (wrap64 (x11_5 + 1)), (by first | rfl | (simp; done) | (simp [*]; done)), H', ⟨by have := HJ2.out; have := HJ7.out; have := HJ11.out; have := HJ17.out; have := HK5.out; have := HJ40.out; have := HJ60.out; have := HJ64.out; have := HJ71.out; have := HJ75.out; omega⟩, ⟨by (with_reducible repeat (first | apply Kd.R_alloc | apply Kd.R_drewN | apply Kd.R_drew)); exact Kd.R_mono HO_10.out (fun _ hk => hk.1)⟩, ⟨by (with_reducible repeat (first | refine blk_drewN ?_ _ | refine blk_drew ?_ | refine blk_alloc ?_ _)); exact BK115.out⟩, ⟨by repeat (first | (with_reducible first | exact HB.out | apply below_alloc | apply pw_below_drewN | apply below_drew1 | refine below_set ?_ GE115.out | refine below_set ?_ GE129.out) | exact HB.out)⟩⟩
                           ·rw [if_neg c114] at H
                            exact absurd H (by simp)
                          ·rw [if_neg c113] at H
                           exact absurd H (by simp)
                         ·rw [if_neg c112] at H
                          have c112b0 : (a1_0 == 4) = false := beq_eq_false_iff_ne.mpr c112
                          have c112b1 : (a1_0 != 4) = true := bne_iff_ne.mpr c112
                          by_cases c123 : 0 ≤ x11_5
                          ·rw [if_pos c123] at H
                           have c123b0 : decide (0 ≤ x11_5) = true := decide_eq_true c123
                           clear c123
                           by_cases c124 : x11_5 < (x10_5.length : Int)
                           ·rw [if_pos c124] at H
                            have c124b0 : decide (x11_5 < (x10_5.length : Int)) = true := decide_eq_true c124
                            clear c124
                            obtain ⟨y134, hy134⟩ : ∃ y_ : List (S94), y_ = (x10_5.set (x11_5 : Int).toNat (⟨x130000_71, x130001_71, x130002_71, x130003_71⟩ : S94)) := ⟨_, rfl⟩
                            replace H : (ecdysisref03_Do.l1 kj75 x7_2 y134 (wrap64 (x11_5 + 1)) a1_0 a1_1 a1_2 l1_3 l1_4) = some (r1, r2, r3) := by first | (rw [hy134]; with_reducible exact H) | (have H2_ := (Option.bind_some _ _).symm.trans H; rw [hy134]; with_reducible exact H2_) | (have H2_ := (Option.bind_some _ _).symm.trans H; with_reducible exact H2_) | with_reducible exact H | (rw [hy134]; exact H) | exact H
                            have Ny134 := Aside0.mk hy134
                            clear hy134
                            have H' := Aside0.mk H
                            clear H
                            have hnb126 := NB115_129.out
                            have hnc126 := NB129_115.out
                            have hcz127_0 : wc.cell? ⟨gb115, 0, none⟩ = some (.int .i64 a1_0) := (blk_cell BK115.out 0).trans rfl
                            have hcz127_1 : wc.cell? ⟨gb115, 1, none⟩ = some (.int .i64 a1_1) := (blk_cell BK115.out 1).trans rfl
                            have hcz127_2 : wc.cell? ⟨gb115, 2, none⟩ = some (.int .i64 a1_2) := (blk_cell BK115.out 2).trans rfl
                            have hcz127_3 : wc.cell? ⟨gb115, 3, none⟩ = some (.slice A1_3 l1_3.length c1_3) := (blk_cell BK115.out 3).trans rfl
                            have hcz127_4 : wc.cell? ⟨gb115, 4, none⟩ = some (.slice A1_4 l1_4.length c1_4) := (blk_cell BK115.out 4).trans rfl
                            have hfz127_0 := blk_frozen BK115.out 0
                            have hfz127_1 := blk_frozen BK115.out 1
                            have hfz127_2 := blk_frozen BK115.out 2
                            have hfz127_3 := blk_frozen BK115.out 3
                            have hfz127_4 := blk_frozen BK115.out 4
                            have hcz128_0 : wc.cell? ⟨gb129, 0, none⟩ = some (.string x130000_71) := (blk_cell BK129.out 0).trans rfl
                            have hcz128_1 : wc.cell? ⟨gb129, 1, none⟩ = some (.string x130001_71) := (blk_cell BK129.out 1).trans rfl
                            have hcz128_2 : wc.cell? ⟨gb129, 2, none⟩ = some (.bool x130002_71) := (blk_cell BK129.out 2).trans rfl
                            have hcz128_3 : wc.cell? ⟨gb129, 3, none⟩ = some (.bool x130003_71) := (blk_cell BK129.out 3).trans rfl
                            have hfz128_0 := blk_frozen BK129.out 0
                            have hfz128_1 := blk_frozen BK129.out 1
                            have hfz128_2 := blk_frozen BK129.out 2
                            have hfz128_3 := blk_frozen BK129.out 3
                            have p125 : 0 ≤ (x11_5 : Int) := of_decide_eq_true (by first | (with_reducible assumption) | assumption)
                            have q125 : (x11_5 : Int) < ((x10_5.length : Int) : Int) := of_decide_eq_true (by first | (with_reducible assumption) | assumption)
                            obtain ⟨go125, co125, eo125, gb125, gl125, cl125, HG125⟩ := Kd.R_form HO_10.out (by omega)
                            (first | cases eo125 | (injection eo125 with ea_ en_ ec_; (first | subst ea_ | (injection ea_ with ea_; subst ea_)); subst ec_; clear en_))
                            have GB125 := Aside0.mk gb125
                            have GG125 := Aside0.mk HG125
                            clear gb125 gl125 HG125
                            obtain ⟨ce125, hcl125, hM125, hcc125, hfr125⟩ := Kd.R_elem HO_10.out z94 (x11_5 : Int) p125 q125
                            obtain rfl := k94_openM hM125
                            have hx125_0 : wc.cell? ⟨go125, (x11_5 : Int).toNat * 4, none⟩ = some (.string ((rd_T94 x10_5 x11_5).f0)) := hcc125 0 _ rfl
                            have hx125_1 : wc.cell? ⟨go125, (x11_5 : Int).toNat * 4 + 1, none⟩ = some (.string ((rd_T94 x10_5 x11_5).f1)) := hcc125 1 _ rfl
                            have hx125_2 : wc.cell? ⟨go125, (x11_5 : Int).toNat * 4 + 2, none⟩ = some (.bool ((rd_T94 x10_5 x11_5).f2)) := hcc125 2 _ rfl
                            have hx125_3 : wc.cell? ⟨go125, (x11_5 : Int).toNat * 4 + 3, none⟩ = some (.bool ((rd_T94 x10_5 x11_5).f3)) := hcc125 3 _ rfl
                            have hf125_0 : wc.frozen? ⟨go125, (x11_5 : Int).toNat * 4, none⟩ = false := hfr125 0
                            have hf125_1 : wc.frozen? ⟨go125, (x11_5 : Int).toNat * 4 + 1, none⟩ = false := hfr125 1
                            have hf125_2 : wc.frozen? ⟨go125, (x11_5 : Int).toNat * 4 + 2, none⟩ = false := hfr125 2
                            have hf125_3 : wc.frozen? ⟨go125, (x11_5 : Int).toNat * 4 + 3, none⟩ = false := hfr125 3
                            clear hcl125 hcc125 hfr125 hM125
                            replace p125 := eq_true p125
                            replace q125 := eq_true q125
                            have HX129 := Aside0.mk (show Kd.R k94 94 wc w.heap.size (fun k_ => (w.heap.size ≤ k_) ∧ k_ ≠ gb129) (.slice (some ⟨go125, 0, none⟩) x10_5.length co42) x10_5 from (by (with_reducible repeat (first | apply Kd.R_alloc | apply Kd.R_drewN | apply Kd.R_drew)); exact HO_10.out))
                            obtain ⟨ce129, hcl129, hM129, hcc129, hfr129⟩ := Kd.R_elem HX129.out z94 (x11_5 : Int) (of_decide_eq_true (by first | (with_reducible assumption) | assumption)) (by have h_ : (x11_5 : Int) < ((x10_5.length : Int) : Int) := of_decide_eq_true (by first | (with_reducible assumption) | assumption); first | exact h_ | (have e_ := (Kd.R_reads' HO_10.out).1; omega) | simpa using h_)
                            obtain rfl := k94_openM hM129
                            have HP129 := Kd.R_seg HX129.out (x11_5 : Int) (of_decide_eq_true (by first | (with_reducible assumption) | assumption)) (by have h_ : (x11_5 : Int) < ((x10_5.length : Int) : Int) := of_decide_eq_true (by first | (with_reducible assumption) | assumption); first | exact h_ | (have e_ := (Kd.R_reads' HO_10.out).1; omega) | simpa using h_) (seg := [.string x130000_71, .string x130001_71, .bool x130002_71, .bool x130003_71]) (j := 0) hcl129 hcc129 (show 4 ≤ 4 from by decide) (x' := (⟨x130000_71, x130001_71, x130002_71, x130003_71⟩ : S94)) (k94_mkM _ _ _ (⟨x130000_71, x130001_71, x130002_71, x130003_71⟩ : S94) ) (fun _ hk => hk)
                            have hx129_0 := hcc129 0 _ rfl
                            (try simp only [show (k94).sz = 4 from rfl, Nat.mul_one, Nat.add_zero] at hx129_0)
                            have hf129_0 := hfr129 0
                            (try simp only [show (k94).sz = 4 from rfl, Nat.mul_one, Nat.add_zero] at hf129_0)
                            have hx129_1 := hcc129 1 _ rfl
                            (try simp only [show (k94).sz = 4 from rfl, Nat.mul_one, Nat.add_zero] at hx129_1)
                            have hf129_1 := hfr129 1
                            (try simp only [show (k94).sz = 4 from rfl, Nat.mul_one, Nat.add_zero] at hf129_1)
                            have hx129_2 := hcc129 2 _ rfl
                            (try simp only [show (k94).sz = 4 from rfl, Nat.mul_one, Nat.add_zero] at hx129_2)
                            have hf129_2 := hfr129 2
                            (try simp only [show (k94).sz = 4 from rfl, Nat.mul_one, Nat.add_zero] at hf129_2)
                            have hx129_3 := hcc129 3 _ rfl
                            (try simp only [show (k94).sz = 4 from rfl, Nat.mul_one, Nat.add_zero] at hx129_3)
                            have hf129_3 := hfr129 3
                            (try simp only [show (k94).sz = 4 from rfl, Nat.mul_one, Nat.add_zero] at hf129_3)
                            clear hcl129 hcc129 hfr129 hM129
                            go_wp2_with (first | ((with_reducible refine gate_store (t := 94) (p := 152) rfl ?_); refine store_event (t := 94) (p := 152) (v := ?vo_w130) (w1 := ((((wc.setCell ⟨go125, (x11_5 : Int).toNat * 4, none⟩ (.string x130000_71)).setCell ⟨go125, (x11_5 : Int).toNat * 4 + 1, none⟩ (.string x130001_71)).setCell ⟨go125, (x11_5 : Int).toNat * 4 + 2, none⟩ (.bool x130002_71)).setCell ⟨go125, (x11_5 : Int).toNat * 4 + 3, none⟩ (.bool x130003_71))) ?hg ?ho ?hn ?hr ?_; (case ho => rfl); (case hg => rfl); (case hn => rfl); (case hr => first | (go_simp; done) | (go_simp; rfl)); intro w130 hw; have hg : wc.grownBy w130 (some go125) := (by rw [hw]; exact HP129.2); have hp_ : Kd.R k94 94 w130 w.heap.size (fun k_ => (w.heap.size ≤ k_) ∧ k_ ≠ gb129) (.slice (some ⟨go125, 0, none⟩) x10_5.length co42) y134 := (by rw [hw, Ny134.out]; exact HP129.1); clear HP129; have n0_ := Aside0.mk (hp_); have n1_ := Aside0.mk (blk_grown (g := gb115) (o := .cells #[.int .i64 a1_0, .int .i64 a1_1, .int .i64 a1_2, .slice A1_3 l1_3.length c1_3, .slice A1_4 l1_4.length c1_4] 54 (0, 0)) (by (with_reducible repeat (first | refine blk_drewN ?_ _ | refine blk_drew ?_ | refine blk_alloc ?_ _)); exact BK115.out) hg (Kd.R_ne HO_10.out BK115.out (by decide))); have n2_ := Aside0.mk (blk_grown (g := gb129) (o := .cells #[.string x130000_71, .string x130001_71, .bool x130002_71, .bool x130003_71] 94 (0, 0)) (by (with_reducible repeat (first | refine blk_drewN ?_ _ | refine blk_drew ?_ | refine blk_alloc ?_ _)); exact BK129.out) hg (Kd.R_away HO_10.out (fun _ hk => hk.2))); have n3_ := Aside0.mk ((by rw [hw]; exact below_set (below_set (below_set (below_set (HB.out) GB125.out) GB125.out) GB125.out) GB125.out : Below w.heap.size w w130)); clear HO_10; clear BK115; clear BK129; clear HB; have HO_10 := n0_; have BK115 := n1_; have BK129 := n2_; have HB := n3_; clear n0_ n1_ n2_ n3_; clear hg hw hp_))
                            go_roundg kj75
                            case measure => have := HJ2.out; have := HJ7.out; have := HJ11.out; have := HJ17.out; have := HK5.out; have := HJ40.out; have := HJ60.out; have := HJ64.out; have := HJ71.out; have := HJ75.out; omega
                            case rel => exact ⟨(y134), (wrap64 (x11_5 + 1)), (by first | rfl | (simp; done) | (simp [*]; done)), H', ⟨by have := HJ2.out; have := HJ7.out; have := HJ11.out; have := HJ17.out; have := HK5.out; have := HJ40.out; have := HJ60.out; have := HJ64.out; have := HJ71.out; have := HJ75.out; omega⟩, ⟨by (with_reducible repeat (first | apply Kd.R_alloc | apply Kd.R_drewN | apply Kd.R_drew)); exact Kd.R_mono HO_10.out (fun _ hk => hk.1)⟩, ⟨by (with_reducible repeat (first | refine blk_drewN ?_ _ | refine blk_drew ?_ | refine blk_alloc ?_ _)); exact BK115.out⟩, ⟨by repeat (first | (with_reducible first | exact HB.out | apply below_alloc | apply pw_below_drewN | apply below_drew1 | refine below_set ?_ GE115.out | refine below_set ?_ GE129.out) | exact HB.out)⟩⟩
                           ·rw [if_neg c124] at H
                            exact absurd H (by simp)
                          ·rw [if_neg c123] at H
                           exact absurd H (by simp)
             ·rw [if_neg c40] at H
              exact absurd H (by simp)
            ·rw [if_neg c39] at H
             have c39b0 : decide (x11_5 < (x10_5.length : Int)) = false := decide_eq_false c39
             clear c39
             simp only [Option.some.injEq, Prod.mk.injEq] at H
             obtain ⟨rfl, rfl, rfl⟩ := H
             obtain ⟨Ao131, co131, eo131⟩ := Kd.R_slice HO_10.out
             subst eo131
             go_wp2
             go_ret3
             exact ⟨_, by first | rfl | (simp [errW_none, errW_some] <;> rfl) | (simp [*, errW_none, errW_some] <;> rfl), Kd.V_mono (Kd.R_V (by (with_reducible repeat (first | apply Kd.R_alloc | apply Kd.R_drewN | apply Kd.R_drew)); exact HO_10.out)) (fun k_ hk => by first | exact ⟨(.inr (hk.1)), hk.2⟩ | exact (.inr (hk))), by repeat (first | (with_reducible first | exact HB.out | apply below_alloc | apply pw_below_drewN | apply below_drew1 | refine below_set ?_ GE115.out) | exact HB.out)⟩
         ·rw [if_neg c34] at H
          exact absurd H (by simp)
end Go.Proofs.YtbfogcckbhkciaaGreat.PHandRE
