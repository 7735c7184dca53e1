/- What New, Used, Make, Get, Swing and Free do. -/
import Derived.Test.YtbogfjadmiodkaaHandSl1
import Derived.Deep.RegionHeld
namespace Go.Proofs.Ytbogfjadmiodkaa.Hand
open Go.RowKit Go.Proofs.YtbogfjadmiodkaaW.PrintWords

def freeP (x : Sl) : Bool := !x.2.1 && decide (x.1 < 65535)
theorem make_some (w : World) (p : Nat) (v : Value) (L : List Sl) (n : Int) (k : Nat) (x : Sl) (h : HasSl w p v L) (hk : L.findIdx? freeP = some k) (hx : L[k]? = some x) (hx0 : 0 ≤ x.1) :
    Calls Try.prog 30 #[.pointer (some ⟨p, 0, none⟩), .int .u64 n] w fun e w' => e = .returned (.tuple #[(.agg #[.int .i64 k, .int .i64 (x.1 + 1)] : Value), .int .i64 0]) ∧ HasSl w' p v (L.set k (x.1 + 1, true, n)) ∧ Fr (fun b => some b = v.ownBlock) w w' := by
  rcases h.form with ⟨rfl, rfl⟩ | ⟨g, cap, rfl, hg, hcap, hcap2⟩
  · simp at hk
  have hc := cell_alloc (cell_of_one h.ptr)
  have hkl : k < L.length := (List.getElem?_eq_some_iff.1 hx).1
  have hfx : freeP x = true := by
    have := List.findIdx?_eq_some_iff_getElem.1 hk
    obtain ⟨h1, h2, _⟩ := this
    rw [List.getElem?_eq_getElem h1] at hx
    injection hx with hx
    rw [← hx]
    exact h2
  obtain ⟨hfu, hfg⟩ : x.2.1 = false ∧ x.1 < 65535 := by simpa [freeP] using hfx
  have HH := Aside0.mk h
  have HK := Aside0.mk (show ∀ j y, j < k → L[j]? = some y → freeP y = false by
    intro j y hj hy
    obtain ⟨h1, h2, h3⟩ := List.findIdx?_eq_some_iff_getElem.1 hk
    have h4 := h3 j hj
    rw [List.getElem?_eq_getElem (by omega)] at hy
    injection hy with hy
    rw [← hy]
    simpa using h4)
  have HX := Aside0.mk hx
  clear h hk hx hfx
  go_enter Try.func30, Try.ntmps30
  go_wp2
  go_loopw [13] (fun i wr => ∃ j : Nat, j ≤ k ∧ i = .int .i64 j ∧ Aside0 (Below w.heap.size w wr) ∧ Aside0 (wr.heap[w.heap.size]? = some (.cells #[.int .i64 0, .int .i64 0] 23 (0, 0)))) (fun i _ => (k + 1 - intOf i).toNat)
  case atStart => exact ⟨0, Nat.zero_le _, rfl, ⟨below_alloc (Below.refl _ _) _⟩, ⟨heap_alloc_new w _⟩⟩
  case round =>
    obtain ⟨j, hj, rfl, HB, HZ⟩ := hrel
    obtain ⟨y, hy⟩ : ∃ y, L[j]? = some y := ⟨_, List.getElem?_eq_getElem (by omega)⟩
    have HS := HH.out.move HB.out
    obtain ⟨⟨c0, c1, c2⟩, f0, f1, f2⟩ := slot_cells HS hy
    have a0 := cell_alloc c0
    have a1 := cell_alloc c1
    have a2 := cell_alloc c2
    have hcp := cell_alloc (cell_of_one HS.ptr)
    have HSS := Aside0.mk HS
    clear HS
    by_cases hjk : j < k
    · have hfy := HK.out j y hjk hy
      cases hyu : y.2.1 with
      | true =>
        rw [hyu] at c1 a1
        go_wp2
        go_roundw
        case rel => exact ⟨j + 1, by omega, by go_num, ⟨below_alloc HB.out _⟩, ⟨old_blk HZ.out _⟩⟩
        case measure => (simp [intOf]) <;> omega
      | false =>
        rw [hyu] at c1 a1
        have hyg : 65535 ≤ y.1 := by simpa [freeP, hyu] using hfy
        go_wp2
        go_roundw
        case rel => exact ⟨j + 1, by omega, by go_num, ⟨below_alloc HB.out _⟩, ⟨old_blk HZ.out _⟩⟩
        case measure => (simp [intOf]) <;> omega
    · obtain rfl : j = k := by omega
      have hxy : y = x := by have := HX.out; rw [hy] at this; exact Option.some.inj this
      subst hxy
      rw [hfu] at c1 a1
      go_wp2
      obtain ⟨wb, hwb⟩ : ∃ wb, wb = wr.alloc (Obj.cells #[Value.int IntKind.i64 y.1, Value.bool false, Value.int IntKind.u64 y.2.2] 70) := ⟨_, rfl⟩
      have HSB := HSS.out.move (w1 := wb) (by rw [hwb]; exact below_alloc (Below.refl _ _) _)
      have hwr : IntKind.i64.wrap (y.1 + 1) = y.1 + 1 := IntWalk.i64_in _ (by omega)
      have hbx : wb.cell? ⟨wr.heap.size, 0, none⟩ = some (.int .i64 y.1) := by rw [hwb]; exact new_cell _ _ _ 0 rfl
      have hgb : g ≠ wr.heap.size := by have := World.block_lt_of_cell? wr _ c0; simp at this; omega
      have hzb : wb.heap[w.heap.size]? = some (.cells #[.int .i64 0, .int .i64 0] 23 (0, 0)) := by rw [hwb]; exact old_blk HZ.out _
      have HBb := Aside0.mk (show Below w.heap.size w wb by rw [hwb]; exact below_alloc HB.out _)
      rw [← hwb]
      clear hwb a0 a1 a2 hcp c0 c1 c2 f0 f1 f2
      obtain ⟨⟨c0, c1, c2⟩, f0, f1, f2⟩ := slot_cells HSB hy
      have hcp := cell_of_one HSB.ptr
      have HSS2 := Aside0.mk HSB
      clear HSB
      go_region_held (fun w' => w'.cell? ⟨p, 0, none⟩ = some (.slice (some ⟨g, 0, none⟩) L.length cap) ∧ w'.cell? ⟨wr.heap.size, 0, none⟩ = some (.int .i64 y.1)) (go_keep) (fail)
      have HSP := Aside0.mk ((HSS2.out.put hg hy (y.1 + 1, true, n)).move (Below.refl _ _).drew)
      have HFP := Aside0.mk ((fr_putSl wb g j (y.1 + 1, true, n)).drew)
      obtain ⟨w3, hw3⟩ : ∃ w3, w3 = (putSl wb g j (y.1 + 1, true, n)).drew := ⟨_, rfl⟩
      have hbx3 : w3.cell? ⟨wr.heap.size, 0, none⟩ = some (.int .i64 y.1) := by rw [hw3]; exact cell_far (cell_far (cell_far hbx _ hgb) _ hgb) _ hgb
      have hgz : w.heap.size ≠ g := by have := World.block_lt_of_cell? w _ (slot_cells HH.out hy).1.1; simp at this; omega
      have hzb3 : w3.heap[w.heap.size]? = some (.cells #[.int .i64 0, .int .i64 0] 23 (0, 0)) := by rw [hw3]; exact blk_far (blk_far (blk_far hzb _ hgz) _ hgz) _ hgz
      rw [show (((wb.setCell ⟨g, j * 3, none⟩ (.int .i64 (y.1 + 1))).setCell ⟨g, j * 3 + 1, none⟩ (.bool true)).setCell ⟨g, j * 3 + 2, none⟩ (.int .u64 n)).drew = w3 from hw3.symm]
      rw [← hw3] at HSP HFP
      clear hw3 c0 c1 c2 f0 f1 f2 hbx hzb hcp
      have z0 := blk_cell hzb3 (i := 0) rfl
      have z1 := blk_cell hzb3 (i := 1) rfl
      have zf0 := blk_free hzb3 0
      have zf1 := blk_free hzb3 1
      have HZ3 := Aside0.mk hzb3
      clear hzb3
      go_wp2
      refine bodyPost_ret (results_row_tmp rfl _ _ _ _ _ _ _ rfl (blk_set (blk_set HZ3.out 0 _) 1 _) Try.underlying23 rfl (by kernel_rfl)) rfl ?_
      have hpl := blk_lt HH.out.ptr
      refine ⟨rfl, (HSP.out.far ⟨w.heap.size, 0, none⟩ _ (by simp; omega) (by simp [Value.ownBlock]; omega)).far ⟨w.heap.size, 1, none⟩ _ (by simp; omega) (by simp [Value.ownBlock]; omega), ?_⟩
      have hf := (Fr.of_below HBb.out (fun b => b = g)).trans' ((HFP.out.mono (fun _ hb => hb)))
      have hf2 := (hf.setCell (p := ⟨w.heap.size, 0, none⟩) (.inr (Nat.le_refl _)) (.int .i64 j)).setCell (p := ⟨w.heap.size, 1, none⟩) (.inr (Nat.le_refl _)) (.int .i64 (y.1 + 1))
      exact hf2.mono (fun b hb => by simp [Value.ownBlock, hb])
end Go.Proofs.Ytbogfjadmiodkaa.Hand
