/- What Swing and Free do of a good handle. -/
import Derived.Test.YtbogfjadmiodkaaHandSl3
namespace Go.Proofs.Ytbogfjadmiodkaa.Hand
open Go.RowKit Go.Proofs.YtbogfjadmiodkaaW.PrintWords
theorem swing_good (w : World) (p : Nat) (v : Value) (L : List Sl) (k : Nat) (x : Sl) (n : Int) (h : HasSl w p v L) (hx : L[k]? = some x) (hu : x.2.1 = true) :
    Calls Try.prog 28 #[.pointer (some ⟨p, 0, none⟩), .agg #[.int .i64 k, .int .i64 x.1], .int .u64 n] w fun e w' => e = .returned (.int .i64 0) ∧ HasSl w' p v (L.set k (x.1, true, n)) ∧ Fr (fun b => some b = v.ownBlock) w w' := by
  have hl := (List.getElem?_eq_some_iff.1 hx).1
  rcases h.form with ⟨rfl, rfl⟩ | ⟨g, cap, hv, hg, hcap, hcap2⟩
  · simp at hl
  have HA := Aside0.mk (atV_some (L := L) (k := k) (g := x.1) (by rw [atM, if_pos (by omega), Int.toNat_natCast, hx]; simp [hu]))
  have HV := Aside0.mk hv
  have HH := Aside0.mk h
  have HX := Aside0.mk hx
  clear h hv hx
  go_enter Try.func28, Try.ntmps28
  go_wp2_with (first | ((go_at_call 32; (with_reducible refine (at_calls _ p v L k (HH.out.move (by first | exact below_alloc (below_alloc (below_alloc (Below.refl _ _) _) _) _ | exact below_alloc (below_alloc (Below.refl _ _) _) _ | exact below_alloc (Below.refl _ _) _))).mono ?_); rw [HA.out]; rintro e w1 ⟨rfl, hb1⟩; have HB1 := Aside0.mk (bel_step (by first | exact below_alloc (below_alloc (below_alloc (Below.refl _ _) _) _) _ | exact below_alloc (below_alloc (Below.refl _ _) _) _ | exact below_alloc (Below.refl _ _) _) hb1)); have hs1 := HH.out.move HB1.out; rw [HV.out] at hs1; have hvb := (hb1.block (w.heap.size + 1) (by simp)).trans (old_blk (alloc_two w _ _) _); have HVB := Aside0.mk hvb; have hhb := (hb1.block (w.heap.size + 1 + 1) (by simp)).trans (alloc_three w _ _ _); have HHB := Aside0.mk hhb; have hh0 := cell_alloc (blk_cell hhb (i := 0) rfl); have hh1 := cell_alloc (blk_cell hhb (i := 1) rfl); clear hvb hs1 hb1 hhb) | go_in)
  obtain ⟨wb, hwb⟩ : ∃ wb, wb = w1.alloc (Obj.cells #[Value.int IntKind.i64 k, Value.int IntKind.i64 x.1] 23) := ⟨_, rfl⟩
  have HBb := Aside0.mk (show Below w.heap.size w wb by rw [hwb]; exact below_alloc HB1.out _)
  have hsb := HH.out.move HBb.out
  rw [HV.out] at hsb
  obtain ⟨⟨c0, c1, c2⟩, f0, f1, f2⟩ := slot_cells hsb HX.out
  have b0 := cell_of_one hsb.ptr
  have hvb := old_blk HVB.out (Obj.cells #[Value.int IntKind.i64 k, Value.int IntKind.i64 x.1] 23)
  have hhb := old_blk HHB.out (Obj.cells #[Value.int IntKind.i64 k, Value.int IntKind.i64 x.1] 23)
  rw [← hwb] at hvb hhb ⊢
  have b1 := blk_cell hhb (i := 0) rfl
  have b3 := blk_cell hvb (i := 0) rfl
  have HSB := Aside0.mk hsb
  have hpl := blk_lt HH.out.ptr
  have hgl := World.block_lt_of_cell? w _ (slot_cells (HV.out ▸ HH.out) HX.out).1.1
  have n1 : g ≠ w.heap.size + 1 := by simp at hgl; omega
  have n2 : g ≠ w.heap.size + 1 + 1 := by simp at hgl; omega
  clear hwb hh0 hh1 hsb hhb hvb hpl hgl
  go_region_held (fun w' => w'.cell? ⟨p, 0, none⟩ = some (.slice (some ⟨g, 0, none⟩) L.length cap) ∧ w'.cell? ⟨w.heap.size + 1 + 1, 0, none⟩ = some (.int .i64 k) ∧ w'.cell? ⟨w.heap.size + 1, 0, none⟩ = some (.int .u64 n)) (go_keep) (go_in)
  go_wp2
  go_ret
  refine ⟨rfl, ?_, ?_⟩
  · rw [HV.out]
    refine HasSl.move ?_ (Below.refl _ _).drew
    refine ⟨blk_far HSB.out.ptr _ (fun e => hg e.symm), ?_⟩
    have h3 := flat_set HSB.out.row HX.out (i := 2) (x' := (x.1, true, n)) (u := .int .u64 n) (by decide) (by rw [encSl, encSl, hu]; rfl)
    exact h3
  · have hf := ((Fr.of_below HBb.out (fun b => b = g)).setCell (p := ⟨g, k * 3 + 2, none⟩) (.inl rfl) (.int .u64 n)).drew
    exact hf.mono (fun b hb => by rw [HV.out]; simp [Value.ownBlock, hb])
theorem free_good (w : World) (p : Nat) (v : Value) (L : List Sl) (k : Nat) (x : Sl) (h : HasSl w p v L) (hx : L[k]? = some x) (hu : x.2.1 = true) :
    Calls Try.prog 29 #[.pointer (some ⟨p, 0, none⟩), .agg #[.int .i64 k, .int .i64 x.1]] w fun e w' => e = .returned (.int .i64 0) ∧ HasSl w' p v (L.set k (x.1, false, 0)) ∧ Fr (fun b => some b = v.ownBlock) w w' := by
  have hl := (List.getElem?_eq_some_iff.1 hx).1
  rcases h.form with ⟨rfl, rfl⟩ | ⟨g, cap, hv, hg, hcap, hcap2⟩
  · simp at hl
  have HA := Aside0.mk (atV_some (L := L) (k := k) (g := x.1) (by rw [atM, if_pos (by omega), Int.toNat_natCast, hx]; simp [hu]))
  have HV := Aside0.mk hv
  have HH := Aside0.mk h
  have HX := Aside0.mk hx
  clear h hv hx
  go_enter Try.func29, Try.ntmps29
  go_wp2_with (first | ((go_at_call 32; (with_reducible refine (at_calls _ p v L k (HH.out.move (by first | exact below_alloc (below_alloc (below_alloc (Below.refl _ _) _) _) _ | exact below_alloc (below_alloc (Below.refl _ _) _) _ | exact below_alloc (Below.refl _ _) _))).mono ?_); rw [HA.out]; rintro e w1 ⟨rfl, hb1⟩; have HB1 := Aside0.mk (bel_step (by first | exact below_alloc (below_alloc (below_alloc (Below.refl _ _) _) _) _ | exact below_alloc (below_alloc (Below.refl _ _) _) _ | exact below_alloc (Below.refl _ _) _) hb1)); have hs1 := HH.out.move HB1.out; rw [HV.out] at hs1; have hhb := (hb1.block (w.heap.size + 1) (by simp)).trans (alloc_two w _ _); have HHB := Aside0.mk hhb; have hh0 := cell_alloc (blk_cell hhb (i := 0) rfl); have hh1 := cell_alloc (blk_cell hhb (i := 1) rfl); clear hs1 hb1 hhb) | go_in)
  obtain ⟨wb, hwb⟩ : ∃ wb, wb = w1.alloc (Obj.cells #[Value.int IntKind.i64 k, Value.int IntKind.i64 x.1] 23) := ⟨_, rfl⟩
  have HBb := Aside0.mk (show Below w.heap.size w wb by rw [hwb]; exact below_alloc HB1.out _)
  have hsb := HH.out.move HBb.out
  rw [HV.out] at hsb
  obtain ⟨⟨c0, c1, c2⟩, f0, f1, f2⟩ := slot_cells hsb HX.out
  have b0 := cell_of_one hsb.ptr
  have hhb := old_blk HHB.out (Obj.cells #[Value.int IntKind.i64 k, Value.int IntKind.i64 x.1] 23)
  rw [← hwb] at hhb ⊢
  have b1 := blk_cell hhb (i := 0) rfl
  have HSB := Aside0.mk hsb
  have hgl := World.block_lt_of_cell? w _ (slot_cells (HV.out ▸ HH.out) HX.out).1.1
  have n1 : g ≠ w.heap.size + 1 := by simp at hgl; omega
  clear hwb hh0 hh1 hsb hhb hgl
  go_region_held (fun w' => w'.cell? ⟨p, 0, none⟩ = some (.slice (some ⟨g, 0, none⟩) L.length cap) ∧ w'.cell? ⟨w.heap.size + 1, 0, none⟩ = some (.int .i64 k)) (go_keep) (go_in)
  go_wp2
  go_ret
  refine ⟨rfl, ?_, ?_⟩
  · rw [HV.out]
    exact (HSB.out.put hg HX.out (x.1, false, 0)).move (Below.refl _ _).drew
  · have hf := (Fr.of_below HBb.out (fun b => b = g)).trans' (fr_putSl wb g k (x.1, false, 0)).drew
    exact hf.mono (fun b hb => by rw [HV.out]; simp [Value.ownBlock, hb])
end Go.Proofs.Ytbogfjadmiodkaa.Hand
