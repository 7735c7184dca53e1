/- What Get, Swing and Free do, of a good handle and of any other. -/
import Derived.Test.YtbogfjadmiodkaaHandSl2
namespace Go.Proofs.Ytbogfjadmiodkaa.Hand
open Go.RowKit Go.Proofs.YtbogfjadmiodkaaW.PrintWords

def goodM (L : List Sl) (h : Int × Int) : Bool := match atM L h.1 with | some g => g == h.2 | none => false
theorem atV_some {L : List Sl} {k g : Int} (h : atM L k = some g) : atV L k = .tuple #[.agg #[.int .i64 k, .int .i64 g], .bool true] := by rw [atV, h]; rfl
theorem atV_none {L : List Sl} {k : Int} (h : atM L k = none) : atV L k = .tuple #[.agg #[.int .i64 0, .int .i64 0], .bool false] := by rw [atV, h]; rfl
theorem good_slot {L : List Sl} {h : Int × Int} (hg : goodM L h = true) : ∃ (k : Nat) (x : Sl), h.1 = k ∧ L[k]? = some x ∧ x.2.1 = true ∧ x.1 = h.2 ∧ atM L k = some h.2 := by
  unfold goodM at hg
  cases ha : atM L h.1 with
  | none => rw [ha] at hg; simp at hg
  | some g =>
    rw [ha] at hg
    have hgg : g = h.2 := by simpa using hg
    subst hgg
    have ha2 := ha
    unfold atM at ha2
    split at ha2
    · rename_i h0
      obtain ⟨k, hk⟩ := Int.eq_ofNat_of_zero_le h0
      rw [hk] at ha ha2 ⊢
      rw [Int.toNat_natCast] at ha2
      split at ha2
      · rename_i x hx
        split at ha2
        · rename_i hu
          injection ha2 with ha2
          exact ⟨k, x, rfl, hx, hu, ha2, ha⟩
        · simp at ha2
      · simp at ha2
    · simp at ha2
theorem get_good (w : World) (p : Nat) (v : Value) (L : List Sl) (k : Nat) (x : Sl) (h : HasSl w p v L) (hx : L[k]? = some x) (hu : x.2.1 = true) :
    Calls Try.prog 27 #[.pointer (some ⟨p, 0, none⟩), .agg #[.int .i64 k, .int .i64 x.1]] w fun e w' => e = .returned (.tuple #[.int .u64 x.2.2, .int .i64 0]) ∧ Below w.heap.size w w' := by
  have hl := (List.getElem?_eq_some_iff.1 hx).1
  rcases h.form with ⟨rfl, rfl⟩ | ⟨g, cap, hv, hg, hcap, hcap2⟩
  · simp at hl
  have HA := Aside0.mk (atV_some (L := L) (k := k) (g := x.1) (by rw [atM, if_pos (by omega), Int.toNat_natCast, hx]; simp [hu]))
  have HV := Aside0.mk hv
  have HH := Aside0.mk h
  have HX := Aside0.mk hx
  clear h hv hx
  go_enter Try.func27, Try.ntmps27
  go_wp2_with (first | ((go_at_call 32; (with_reducible refine (at_calls _ p v L k (HH.out.move (by first | exact below_alloc (below_alloc (below_alloc (Below.refl _ _) _) _) _ | exact below_alloc (below_alloc (Below.refl _ _) _) _ | exact below_alloc (Below.refl _ _) _))).mono ?_); rw [HA.out]; rintro e w1 ⟨rfl, hb1⟩; have HB1 := Aside0.mk (bel_step (by first | exact below_alloc (below_alloc (below_alloc (Below.refl _ _) _) _) _ | exact below_alloc (below_alloc (Below.refl _ _) _) _ | exact below_alloc (Below.refl _ _) _) hb1)); have hs1 := HH.out.move HB1.out; rw [HV.out] at hs1; obtain ⟨⟨c0, c1, c2⟩, f0, f1, f2⟩ := slot_cells hs1 HX.out; have a2 := cell_alloc c2; have hcp := cell_alloc (cell_of_one hs1.ptr); have hvb := (hb1.block (w.heap.size + 1) (by simp)).trans (old_blk (alloc_two w _ _) _); have hvc := cell_alloc (blk_cell hvb (i := 0) rfl); have hvf := free_alloc (blk_free hvb 0) (blk_lt hvb); have HVB := Aside0.mk hvb; have hhb := (hb1.block (w.heap.size + 1 + 1) (by simp)).trans (alloc_three w _ _ _); have hh0 := cell_alloc (blk_cell hhb (i := 0) rfl); have hh1 := cell_alloc (blk_cell hhb (i := 1) rfl); clear hvb hs1 hb1 hhb c0 c1 c2 f0 f1 f2) | go_in)
  have hpl := blk_lt HH.out.ptr
  have hgl := World.block_lt_of_cell? w _ (slot_cells (HV.out ▸ HH.out) HX.out).1.1
  have n1 : w.heap.size + 1 ≠ p := by omega
  have n2 : w.heap.size + 1 ≠ g := by simp at hgl; omega
  clear hpl hgl
  obtain ⟨wb, hwb⟩ : ∃ wb, wb = w1.alloc (Obj.cells #[Value.int IntKind.i64 k, Value.int IntKind.i64 x.1] 23) := ⟨_, rfl⟩
  have HBb := Aside0.mk (show Below w.heap.size w wb by rw [hwb]; exact below_alloc HB1.out _)
  have b0 := hcp (Obj.cells #[Value.int IntKind.i64 k, Value.int IntKind.i64 x.1] 23)
  have b1 := hh0 (Obj.cells #[Value.int IntKind.i64 k, Value.int IntKind.i64 x.1] 23)
  have b2 := a2 (Obj.cells #[Value.int IntKind.i64 k, Value.int IntKind.i64 x.1] 23)
  have b3 := hvc (Obj.cells #[Value.int IntKind.i64 k, Value.int IntKind.i64 x.1] 23)
  have b4 := hvf (Obj.cells #[Value.int IntKind.i64 k, Value.int IntKind.i64 x.1] 23)
  have hvb := old_blk HVB.out (Obj.cells #[Value.int IntKind.i64 k, Value.int IntKind.i64 x.1] 23)
  rw [← hwb] at b0 b1 b2 b3 b4 hvb ⊢
  have HVC := Aside0.mk hvb
  clear hwb hcp hh0 hh1 a2 hvc hvf hvb
  go_region_held (fun w' => w'.cell? ⟨p, 0, none⟩ = some (.slice (some ⟨g, 0, none⟩) L.length cap) ∧ w'.cell? ⟨w.heap.size + 1 + 1, 0, none⟩ = some (.int .i64 k) ∧ w'.cell? ⟨g, k * 3 + 2, none⟩ = some (.int .u64 x.2.2)) (go_keep) (go_in)
  obtain ⟨wc, hwc⟩ : ∃ wc, wc = (wb.setCell ⟨w.heap.size + 1, 0, none⟩ (.int .u64 x.2.2)).drew := ⟨_, rfl⟩
  have hvd : wc.heap[w.heap.size + 1]? = some (.cells #[.int .u64 x.2.2] 24 (0, 0)) := by rw [hwc]; exact blk_set HVC.out 0 _
  have hvd0 := blk_cell hvd (i := 0) rfl
  have hvdf := blk_free hvd 0
  have HBc := Aside0.mk (show Below w.heap.size w wc by rw [hwc]; exact (HBb.out.setCell (p := ⟨w.heap.size + 1, 0, none⟩) (by simp) _).drew)
  rw [← hwc]
  have HVD := Aside0.mk hvd
  clear hwc hvd b0 b1 b2 b3 b4
  go_wp2
  refine bodyPost_ret (results_one_tmp rfl _ _ (w.heap.size + 1) _ rfl (blk_cell (blk_set HVD.out 0 _) (i := 0) rfl) Try.underlying24 rfl) rfl ?_
  exact ⟨rfl, HBc.out.setCell (p := ⟨w.heap.size + 1, 0, none⟩) (by simp) _⟩
end Go.Proofs.Ytbogfjadmiodkaa.Hand
