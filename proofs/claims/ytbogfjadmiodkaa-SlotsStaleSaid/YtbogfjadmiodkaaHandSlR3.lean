/- The document's answer for layer 11: Do. -/
import Derived.Test.YtbogfjadmiodkaaHandSlR2
import Derived.Test.YtbogfjadmiodkaaHandSl8
import Derived.Deep.RegionHeld
import Derived.Deep.RegionHeld
import Derived.Deep.RegionHeld
namespace Go.Proofs.Ytbogfjadmiodkaa.Hand
open Go.RowKit Go.Proofs.YtbogfjadmiodkaaW.PrintWords
set_option linter.unusedVariables false

def opV (o : OpT) : Value := .agg #[.int .i64 o.1, .int .i64 o.2.1.1, .int .i64 o.2.1.2, .int .u64 o.2.2]
/-- What a call of the document leaves. -/
def DoRes (w : World) (ok : Nat → Prop) (r : List Sl × (Int × Int) × Int × Int) (e : Ending) (w' : World) : Prop :=
  ∃ u, e = .returned (.tuple #[u, .agg #[.int .i64 r.2.1.1, .int .i64 r.2.1.2], .int .u64 r.2.2.1, .int .i64 r.2.2.2]) ∧ SlK.R 57 w' 0 (fun k => ok k ∨ w.heap.size ≤ k) u r.1 ∧ Below w.heap.size w w'
theorem rd_of {w : World} {ok : Nat → Prop} {A : Option Addr} {c : Nat} {L : List Sl} {e : Nat} (h : SlK.R e w 0 ok (.slice A L.length c) L) : RdS w A L := by
  obtain ⟨A', c', he, _, hC⟩ := Kd.R_reads h
  injection he with h1 h2 h3
  rw [h1]
  exact hC
theorem set2_below {w w1 : World} (h : Below w.heap.size w w1) (a b : Value) {q : Nat} (hq : w.heap.size ≤ q) : Below w.heap.size w ((w1.setCell ⟨q, 0, none⟩ a).setCell ⟨q, 1, none⟩ b) := (h.setCell (p := ⟨q, 0, none⟩) hq _).setCell (p := ⟨q, 1, none⟩) hq _
theorem set2_row {e : Nat} {w : World} {base : Nat} {ok : Nat → Prop} {v : Value} {L : List Sl} (h : SlK.R e w base ok v L) (a b : Value) {q : Nat} (hq : ∀ j, ok j → j ≠ q) : SlK.R e ((w.setCell ⟨q, 0, none⟩ a).setCell ⟨q, 1, none⟩ b) base ok v L := Kd.R_far (p := ⟨q, 1, none⟩) (Kd.R_far (p := ⟨q, 0, none⟩) h hq a) hq b
/-- A row of an elder world is none of a block that is made later. -/
theorem old_row {e : Nat} {w w1 : World} {ok : Nat → Prop} {v : Value} {L : List Sl} (h : SlK.R e w 0 ok v L) (hb : Below w.heap.size w w1) : SlK.R e w1 0 (fun k => ok k ∧ k < w.heap.size) v L := Kd.R_below (Kd.R_mono (Kd.R_bound h) (fun k hk => ⟨hk.1, hk.2.2.1⟩)) hb
theorem new2_ge {w : World} {o1 o2 : Obj} {k : Nat} (h : New ((w.alloc o1).alloc o2) k) : w.heap.size ≤ k := by
  have h1 : ((w.alloc o1).alloc o2).heap.size ≤ k := h
  simp at h1
  omega
theorem new2_ne {w : World} {o1 o2 : Obj} {k : Nat} (h : New ((w.alloc o1).alloc o2) k) : k ≠ w.heap.size + 1 := by
  have h1 : ((w.alloc o1).alloc o2).heap.size ≤ k := h
  simp at h1
  omega
theorem rDo_make (w : World) (ok : Nat → Prop) (A : Option Addr) (c : Nat) (L : List Sl) (s g n : Int) (h : SlK.R 57 w 0 ok (.slice A L.length c) L) (hw : ∀ x ∈ L, WfSl x) (hl : L.length ≤ 65536) :
    Calls Try.prog 37 #[.slice A L.length c, .agg #[.int .i64 0, .int .i64 s, .int .i64 g, .int .u64 n]] w (DoRes w ok (doM L (0, (s, g), n))) := by
  have HR := Aside0.mk h
  have HD := Aside0.mk (rd_of h)
  cases hk : L.findIdx? freeP with
  | some k =>
    obtain ⟨h1, h2, h3⟩ := List.findIdx?_eq_some_iff_getElem.1 hk
    obtain ⟨x, hx⟩ : ∃ x, L[k]? = some x := ⟨_, List.getElem?_eq_getElem h1⟩
    have HM := Aside0.mk (show doM L (0, (s, g), n) = (L.set k (x.1 + 1, true, n), ((k : Int), x.1 + 1), 0, 0) by rw [doM, if_pos rfl, hk]; simp only [hx])
    have HX := Aside0.mk hx
    have HK := Aside0.mk hk
    have HX0 := Aside0.mk (hw x (List.mem_of_getElem? hx)).1.1
    clear h hk hx h1 h2 h3 hw
    go_enter Try.func37, Try.ntmps37
    go_wp2_with (go_at_call 49; (with_reducible refine (rMake_some _ A c L n k x (HD.out.below (below_alloc (below_alloc (Below.refl _ _) _) _)) HK.out HX.out HX0.out hl).mono ?_); rintro e w2 ⟨u, rfl, hr2, hb2⟩; have HR2 := Aside0.mk hr2; have HB2 := Aside0.mk (bel_step (below_alloc (below_alloc (Below.refl _ _) _) _) hb2); have hzb := (hb2.block (w.heap.size + 1) (by simp)).trans (alloc_two w _ _); have z0 := cell_alloc (blk_cell hzb (i := 0) rfl); have z1 := cell_alloc (blk_cell hzb (i := 1) rfl); have zf0 := free_alloc (blk_free hzb 0) (blk_lt hzb); have zf1 := free_alloc (blk_free hzb 1) (blk_lt hzb); have HZ2 := Aside0.mk hzb; clear hzb; clear hr2 hb2)
    obtain ⟨w3, hw3⟩ : ∃ w3, w3 = w2.alloc (Obj.cells #[.int .i64 k, .int .i64 (x.1 + 1)] 23) := ⟨_, rfl⟩
    have h0 : w3.cell? ⟨w2.heap.size, 0, none⟩ = some (.int .i64 k) := by rw [hw3]; exact new_cell _ _ _ 0 rfl
    have h1 : w3.cell? ⟨w2.heap.size, 1, none⟩ = some (.int .i64 (x.1 + 1)) := by rw [hw3]; exact new_cell _ _ _ 1 rfl
    have hz3 : w3.heap[w.heap.size + 1]? = some (.cells #[.int .i64 0, .int .i64 0] 23 (0, 0)) := by rw [hw3]; exact old_blk HZ2.out _
    have HB3 := Aside0.mk (show Below w.heap.size w w3 by rw [hw3]; exact below_alloc HB2.out _)
    have HK3 := Aside0.mk (show Below w2.heap.size w2 w3 by rw [hw3]; exact below_alloc (Below.refl _ _) _)
    have n1 : w.heap.size + 1 ≠ w2.heap.size := by have := blk_lt HZ2.out; omega
    rw [← hw3]
    clear hw3 z0 z1 zf0 zf1
    have z0 := blk_cell hz3 (i := 0) rfl
    have z1 := blk_cell hz3 (i := 1) rfl
    have zf0 := blk_free hz3 0
    have zf1 := blk_free hz3 1
    have HZ3 := Aside0.mk hz3
    clear hz3
    go_region_held (fun w' => w'.cell? ⟨w2.heap.size, 0, none⟩ = some (.int .i64 k) ∧ w'.cell? ⟨w2.heap.size, 1, none⟩ = some (.int .i64 (x.1 + 1))) (go_keep) (fail)
    go_wp2
    refine bodyPost_ret (results_t_row_tt rfl _ _ (w.heap.size + 1) _ _ _ _ rfl (blk_set (blk_set HZ3.out 0 _) 1 _) Try.underlying23 rfl (by kernel_rfl)) rfl ?_
    rw [HM.out]
    refine ⟨_, rfl, ?_, (set2_below HB3.out _ _ (Nat.le_succ _)).drew⟩
    exact Kd.R_mono (Kd.R_below (set2_row (Kd.R_below HR2.out HK3.out) _ _ (fun j hj => new2_ne hj)) (Below.refl _ _).drew) (fun j hj => .inr (new2_ge hj))
  | none =>
    have HM := Aside0.mk (show doM L (0, (s, g), n) = (L, (0, 0), 0, 110) by rw [doM, if_pos rfl, hk])
    have HK := Aside0.mk hk
    clear h hk hw
    go_enter Try.func37, Try.ntmps37
    go_wp2_with (go_at_call 49; (with_reducible refine (rMake_none _ A c L n (HD.out.below (below_alloc (below_alloc (Below.refl _ _) _) _)) HK.out hl).mono ?_); rintro e w2 ⟨rfl, hb2⟩; have HB2 := Aside0.mk (bel_step (below_alloc (below_alloc (Below.refl _ _) _) _) hb2); have hzb := (hb2.block (w.heap.size + 1) (by simp)).trans (alloc_two w _ _); have z0 := cell_alloc (blk_cell hzb (i := 0) rfl); have z1 := cell_alloc (blk_cell hzb (i := 1) rfl); have zf0 := free_alloc (blk_free hzb 0) (blk_lt hzb); have zf1 := free_alloc (blk_free hzb 1) (blk_lt hzb); have HZ2 := Aside0.mk hzb; clear hzb; clear hb2)
    obtain ⟨w3, hw3⟩ : ∃ w3, w3 = w2.alloc (Obj.cells #[.int .i64 0, .int .i64 0] 23) := ⟨_, rfl⟩
    have h0 : w3.cell? ⟨w2.heap.size, 0, none⟩ = some (.int .i64 0) := by rw [hw3]; exact new_cell _ _ _ 0 rfl
    have h1 : w3.cell? ⟨w2.heap.size, 1, none⟩ = some (.int .i64 0) := by rw [hw3]; exact new_cell _ _ _ 1 rfl
    have hz3 : w3.heap[w.heap.size + 1]? = some (.cells #[.int .i64 0, .int .i64 0] 23 (0, 0)) := by rw [hw3]; exact old_blk HZ2.out _
    have HB3 := Aside0.mk (show Below w.heap.size w w3 by rw [hw3]; exact below_alloc HB2.out _)
    have HK3 := Aside0.mk (show Below w2.heap.size w2 w3 by rw [hw3]; exact below_alloc (Below.refl _ _) _)
    have n1 : w.heap.size + 1 ≠ w2.heap.size := by have := blk_lt HZ2.out; omega
    rw [← hw3]
    clear hw3 z0 z1 zf0 zf1
    have z0 := blk_cell hz3 (i := 0) rfl
    have z1 := blk_cell hz3 (i := 1) rfl
    have zf0 := blk_free hz3 0
    have zf1 := blk_free hz3 1
    have HZ3 := Aside0.mk hz3
    clear hz3
    go_region_held (fun w' => w'.cell? ⟨w2.heap.size, 0, none⟩ = some (.int .i64 0) ∧ w'.cell? ⟨w2.heap.size, 1, none⟩ = some (.int .i64 0)) (go_keep) (fail)
    go_wp2
    refine bodyPost_ret (results_t_row_tt rfl _ _ (w.heap.size + 1) _ _ _ _ rfl (blk_set (blk_set HZ3.out 0 _) 1 _) Try.underlying23 rfl (by kernel_rfl)) rfl ?_
    rw [HM.out]
    refine ⟨_, rfl, ?_, (set2_below HB3.out _ _ (Nat.le_succ _)).drew⟩
    exact Kd.R_mono (Kd.R_below (set2_row (old_row HR.out HB3.out) _ _ (fun j hj => by omega)) (Below.refl _ _).drew) (fun j hj => .inl hj.1)
theorem rDo_stale (w : World) (ok : Nat → Prop) (A : Option Addr) (c : Nat) (L : List Sl) (q s g n : Int) (h : SlK.R 57 w 0 ok (.slice A L.length c) L) (hq : 1 ≤ q ∧ q ≤ 3) (hg : goodM L (s, g) = false) :
    Calls Try.prog 37 #[.slice A L.length c, .agg #[.int .i64 q, .int .i64 s, .int .i64 g, .int .u64 n]] w (DoRes w ok (doM L (q, (s, g), n))) := by
  have HR := Aside0.mk h
  have HD := Aside0.mk (rd_of h)
  have HM := Aside0.mk (show doM L (q, (s, g), n) = (L, (0, 0), 0, 111) by rw [doM, if_neg (by simp only; omega), if_pos hq, hg]; rfl)
  have HG := Aside0.mk hg
  have hq0 : (q == 0) = false := by simp; omega
  obtain ⟨hq1, hq2⟩ := hq
  clear h hg
  go_enter Try.func37, Try.ntmps37
  go_wp2_with (go_at_call 31; (with_reducible refine (rGood_calls _ A c L s g (HD.out.below (below_alloc (below_alloc (Below.refl _ _) _) _))).mono ?_); rw [HG.out]; rintro e w2 ⟨rfl, hb2⟩; have HB2 := Aside0.mk (bel_step (below_alloc (below_alloc (Below.refl _ _) _) _) hb2); have hzb := (hb2.block (w.heap.size + 1) (by simp)).trans (alloc_two w _ _); have z0 := blk_cell hzb (i := 0) rfl; have z1 := blk_cell hzb (i := 1) rfl; have zf0 := blk_free hzb 0; have zf1 := blk_free hzb 1; have HZ2 := Aside0.mk hzb; clear hzb hb2)
  refine bodyPost_ret (results_t_row_tt rfl _ _ (w.heap.size + 1) _ _ _ _ rfl (blk_set (blk_set HZ2.out 0 _) 1 _) Try.underlying23 rfl (by kernel_rfl)) rfl ?_
  rw [HM.out]
  exact ⟨_, rfl, Kd.R_mono (set2_row (old_row HR.out HB2.out) _ _ (fun j hj => by omega)) (fun j hj => .inl hj.1), set2_below HB2.out _ _ (Nat.le_succ _)⟩
theorem rDo_other (w : World) (ok : Nat → Prop) (A : Option Addr) (c : Nat) (L : List Sl) (q s g n : Int) (h : SlK.R 57 w 0 ok (.slice A L.length c) L) (hq : q < 0 ∨ 3 < q) :
    Calls Try.prog 37 #[.slice A L.length c, .agg #[.int .i64 q, .int .i64 s, .int .i64 g, .int .u64 n]] w (DoRes w ok (doM L (q, (s, g), n))) := by
  have HR := Aside0.mk h
  have HM := Aside0.mk (show doM L (q, (s, g), n) = (L, (0, 0), 0, 0) by rw [doM, if_neg (by simp only; omega), if_neg (by simp only; omega)])
  have hq0 : (q == 0) = false := by simp; omega
  have hq1 : (q == 1) = false := by simp; omega
  have hq2 : (q == 2) = false := by simp; omega
  have hq3 : (q == 3) = false := by simp; omega
  clear h
  rcases hq with hq | hq
  · go_enter Try.func37, Try.ntmps37
    go_wp2
    refine bodyPost_ret (results_t_row_tt rfl _ _ (w.heap.size + 1) _ _ _ _ rfl (alloc_two w _ _) Try.underlying23 rfl (by kernel_rfl)) rfl ?_
    rw [HM.out]
    exact ⟨_, rfl, Kd.R_mono (old_row HR.out (below_alloc (below_alloc (Below.refl _ _) _) _)) (fun j hj => .inl hj.1), below_alloc (below_alloc (Below.refl _ _) _) _⟩
  · go_enter Try.func37, Try.ntmps37
    go_wp2
    refine bodyPost_ret (results_t_row_tt rfl _ _ (w.heap.size + 1) _ _ _ _ rfl (alloc_two w _ _) Try.underlying23 rfl (by kernel_rfl)) rfl ?_
    rw [HM.out]
    exact ⟨_, rfl, Kd.R_mono (old_row HR.out (below_alloc (below_alloc (Below.refl _ _) _) _)) (fun j hj => .inl hj.1), below_alloc (below_alloc (Below.refl _ _) _) _⟩
theorem rDo_get (w : World) (ok : Nat → Prop) (A : Option Addr) (c : Nat) (L : List Sl) (k : Nat) (x : Sl) (n : Int) (h : SlK.R 57 w 0 ok (.slice A L.length c) L) (hx : L[k]? = some x) (hu : x.2.1 = true) (hl : L.length ≤ 65536) :
    Calls Try.prog 37 #[.slice A L.length c, .agg #[.int .i64 1, .int .i64 k, .int .i64 x.1, .int .u64 n]] w (DoRes w ok (doM L (1, ((k : Int), x.1), n))) := by
  have HR := Aside0.mk h
  have HD := Aside0.mk (rd_of h)
  have hkl := (List.getElem?_eq_some_iff.1 hx).1
  have HG := Aside0.mk (show goodM L ((k : Int), x.1) = true by rw [goodM, atM, if_pos (by simp), Int.toNat_natCast, hx]; simp [hu])
  have HM := Aside0.mk (show doM L (1, ((k : Int), x.1), n) = (L, (0, 0), x.2.2, 0) by
    rw [doM, if_neg (by simp), if_pos (by simp), HG.out, if_pos rfl]
    simp [hx])
  have HX := Aside0.mk hx
  clear h hx
  go_enter Try.func37, Try.ntmps37
  go_wp2_with (go_at_call 31; (with_reducible refine (rGood_calls _ A c L k x.1 (HD.out.below (below_alloc (below_alloc (Below.refl _ _) _) _))).mono ?_); rw [HG.out]; rintro e w2 ⟨rfl, hb2⟩; have HB2 := Aside0.mk (bel_step (below_alloc (below_alloc (Below.refl _ _) _) _) hb2); have hob := (hb2.block w.heap.size (by simp; omega)).trans (old_blk (heap_alloc_new w _) _); have o0 := blk_cell hob (i := 0) rfl; have o1 := blk_cell hob (i := 1) rfl; have o2 := blk_cell hob (i := 2) rfl; have o3 := blk_cell hob (i := 3) rfl; have hzb := (hb2.block (w.heap.size + 1) (by simp)).trans (alloc_two w _ _); have z0 := blk_cell hzb (i := 0) rfl; have z1 := blk_cell hzb (i := 1) rfl; have zf0 := blk_free hzb 0; have zf1 := blk_free hzb 1; have HZ2 := Aside0.mk hzb; have HOB := Aside0.mk hob; obtain ⟨g, o, hA, c0, c1, c2⟩ := (HD.out.below HB2.out).cells HX.out; subst hA; clear hzb hb2 hob)
  have hgl := World.block_lt_of_cell? w _ (by obtain ⟨g', o', he, c0', _⟩ := HD.out.cells HX.out; cases he; exact c0')
  have n2 : w.heap.size + 1 ≠ g := by simp at hgl; omega
  have n1 : w.heap.size + 1 ≠ w.heap.size := by omega
  clear hgl
  go_region_held (fun w' => w'.cell? ⟨w.heap.size, 1, none⟩ = some (.int .i64 k) ∧ w'.cell? ⟨g, o + k * 3 + 2, none⟩ = some (.int .u64 x.2.2)) (go_keep) (fail)
  go_wp2
  refine bodyPost_ret (results_t_row_tt rfl _ _ (w.heap.size + 1) _ _ _ _ rfl (blk_set (blk_set HZ2.out 0 _) 1 _) Try.underlying23 rfl (by kernel_rfl)) rfl ?_
  rw [HM.out]
  exact ⟨_, rfl, Kd.R_mono (Kd.R_below (set2_row (old_row HR.out HB2.out) _ _ (fun j hj => by omega)) (Below.refl _ _).drew) (fun j hj => .inl hj.1), (set2_below HB2.out _ _ (Nat.le_succ _)).drew⟩
theorem rDo_swing (w : World) (ok : Nat → Prop) (A : Option Addr) (c : Nat) (L : List Sl) (k : Nat) (x : Sl) (n : Int) (h : SlK.R 57 w 0 ok (.slice A L.length c) L) (hx : L[k]? = some x) (hu : x.2.1 = true) (hl : L.length ≤ 65536) :
    Calls Try.prog 37 #[.slice A L.length c, .agg #[.int .i64 2, .int .i64 k, .int .i64 x.1, .int .u64 n]] w (DoRes w ok (doM L (2, ((k : Int), x.1), n))) := by
  have HR := Aside0.mk h
  have HD := Aside0.mk (rd_of h)
  have hkl := (List.getElem?_eq_some_iff.1 hx).1
  have HG := Aside0.mk (show goodM L ((k : Int), x.1) = true by rw [goodM, atM, if_pos (by simp), Int.toNat_natCast, hx]; simp [hu])
  have HM := Aside0.mk (show doM L (2, ((k : Int), x.1), n) = (L.set k (x.1, true, n), (0, 0), 0, 0) by
    rw [doM, if_neg (by simp), if_pos (by simp), HG.out, if_pos rfl]
    simp [hx])
  have HX := Aside0.mk hx
  clear h hx
  go_enter Try.func37, Try.ntmps37
  go_wp2_with (first | (go_at_call 31; (with_reducible refine (rGood_calls _ A c L k x.1 (HD.out.below (below_alloc (below_alloc (Below.refl _ _) _) _))).mono ?_); rw [HG.out]; rintro e w2 ⟨rfl, hb2⟩; have HB2 := Aside0.mk (bel_step (below_alloc (below_alloc (Below.refl _ _) _) _) hb2); have hob := (hb2.block w.heap.size (by simp; omega)).trans (old_blk (heap_alloc_new w _) _); have o0 := blk_cell hob (i := 0) rfl; have o1 := blk_cell hob (i := 1) rfl; have o2 := blk_cell hob (i := 2) rfl; have o3 := blk_cell hob (i := 3) rfl; have hzb := (hb2.block (w.heap.size + 1) (by simp)).trans (alloc_two w _ _); have z0 := blk_cell hzb (i := 0) rfl; have z1 := blk_cell hzb (i := 1) rfl; have zf0 := blk_free hzb 0; have zf1 := blk_free hzb 1; have HZ2 := Aside0.mk hzb; have HOB := Aside0.mk hob; obtain ⟨g, o, hA, c0, c1, c2⟩ := (HD.out.below HB2.out).cells HX.out; subst hA; clear hzb hb2 hob) | (go_at_call 50; (with_reducible refine (with_calls _ (some ⟨g, o, none⟩) c L k (x.1, true, n) (HD.out.below HB2.out) hkl hl).mono ?_); rintro e w3 ⟨u, rfl, hr3, hb3⟩; have HR3 := Aside0.mk hr3; have HB3 := Aside0.mk (bel_step HB2.out hb3); have hzb := (hb3.block _ (blk_lt HZ2.out)).trans HZ2.out; have y0 := blk_cell hzb (i := 0) rfl; have y1 := blk_cell hzb (i := 1) rfl; have yf0 := blk_free hzb 0; have yf1 := blk_free hzb 1; have HZ3 := Aside0.mk hzb; clear hzb hr3 hb3))
  refine bodyPost_ret (results_t_row_tt rfl _ _ (w.heap.size + 1) _ _ _ _ rfl (blk_set (blk_set HZ3.out 0 _) 1 _) Try.underlying23 rfl (by kernel_rfl)) rfl ?_
  rw [HM.out]
  have hn2 : ∀ j, New w2 j → j ≠ w.heap.size + 1 := fun j hj => by
    have h1 : w2.heap.size ≤ j := hj
    have h2 := blk_lt HZ2.out
    omega
  exact ⟨_, rfl, Kd.R_mono (set2_row HR3.out _ _ hn2) (fun j hj => .inr (Nat.le_trans HB2.out.size hj)), set2_below HB3.out _ _ (Nat.le_succ _)⟩
theorem rDo_free (w : World) (ok : Nat → Prop) (A : Option Addr) (c : Nat) (L : List Sl) (k : Nat) (x : Sl) (n : Int) (h : SlK.R 57 w 0 ok (.slice A L.length c) L) (hx : L[k]? = some x) (hu : x.2.1 = true) (hl : L.length ≤ 65536) :
    Calls Try.prog 37 #[.slice A L.length c, .agg #[.int .i64 3, .int .i64 k, .int .i64 x.1, .int .u64 n]] w (DoRes w ok (doM L (3, ((k : Int), x.1), n))) := by
  have HR := Aside0.mk h
  have HD := Aside0.mk (rd_of h)
  have hkl := (List.getElem?_eq_some_iff.1 hx).1
  have HG := Aside0.mk (show goodM L ((k : Int), x.1) = true by rw [goodM, atM, if_pos (by simp), Int.toNat_natCast, hx]; simp [hu])
  have HM := Aside0.mk (show doM L (3, ((k : Int), x.1), n) = (L.set k (x.1, false, 0), (0, 0), 0, 0) by
    rw [doM, if_neg (by simp), if_pos (by simp), HG.out, if_pos rfl]
    simp [hx])
  have HX := Aside0.mk hx
  clear h hx
  go_enter Try.func37, Try.ntmps37
  go_wp2_with (first | (go_at_call 31; (with_reducible refine (rGood_calls _ A c L k x.1 (HD.out.below (below_alloc (below_alloc (Below.refl _ _) _) _))).mono ?_); rw [HG.out]; rintro e w2 ⟨rfl, hb2⟩; have HB2 := Aside0.mk (bel_step (below_alloc (below_alloc (Below.refl _ _) _) _) hb2); have hob := (hb2.block w.heap.size (by simp; omega)).trans (old_blk (heap_alloc_new w _) _); have o0 := blk_cell hob (i := 0) rfl; have o1 := blk_cell hob (i := 1) rfl; have o2 := blk_cell hob (i := 2) rfl; have o3 := blk_cell hob (i := 3) rfl; have hzb := (hb2.block (w.heap.size + 1) (by simp)).trans (alloc_two w _ _); have z0 := blk_cell hzb (i := 0) rfl; have z1 := blk_cell hzb (i := 1) rfl; have zf0 := blk_free hzb 0; have zf1 := blk_free hzb 1; have HZ2 := Aside0.mk hzb; have HOB := Aside0.mk hob; obtain ⟨g, o, hA, c0, c1, c2⟩ := (HD.out.below HB2.out).cells HX.out; subst hA; clear hzb hb2 hob) | (go_at_call 50; (with_reducible refine (with_calls _ (some ⟨g, o, none⟩) c L k (x.1, false, 0) (HD.out.below HB2.out) hkl hl).mono ?_); rintro e w3 ⟨u, rfl, hr3, hb3⟩; have HR3 := Aside0.mk hr3; have HB3 := Aside0.mk (bel_step HB2.out hb3); have hzb := (hb3.block _ (blk_lt HZ2.out)).trans HZ2.out; have y0 := blk_cell hzb (i := 0) rfl; have y1 := blk_cell hzb (i := 1) rfl; have yf0 := blk_free hzb 0; have yf1 := blk_free hzb 1; have HZ3 := Aside0.mk hzb; clear hzb hr3 hb3))
  refine bodyPost_ret (results_t_row_tt rfl _ _ (w.heap.size + 1) _ _ _ _ rfl (blk_set (blk_set HZ3.out 0 _) 1 _) Try.underlying23 rfl (by kernel_rfl)) rfl ?_
  rw [HM.out]
  have hn2 : ∀ j, New w2 j → j ≠ w.heap.size + 1 := fun j hj => by
    have h1 : w2.heap.size ≤ j := hj
    have h2 := blk_lt HZ2.out
    omega
  exact ⟨_, rfl, Kd.R_mono (set2_row HR3.out _ _ hn2) (fun j hj => .inr (Nat.le_trans HB2.out.size hj)), set2_below HB3.out _ _ (Nat.le_succ _)⟩
theorem rDo_calls (w : World) (ok : Nat → Prop) (A : Option Addr) (c : Nat) (L : List Sl) (q s g n : Int) (h : SlK.R 57 w 0 ok (.slice A L.length c) L) (hw : ∀ x ∈ L, WfSl x) (hl : L.length ≤ 65536) :
    Calls Try.prog 37 #[.slice A L.length c, .agg #[.int .i64 q, .int .i64 s, .int .i64 g, .int .u64 n]] w (DoRes w ok (doM L (q, (s, g), n))) := by
  by_cases h0 : q = 0
  · subst h0
    exact rDo_make w ok A c L s g n h hw hl
  · by_cases h1 : 1 ≤ q ∧ q ≤ 3
    · cases hg : goodM L (s, g) with
      | false => exact rDo_stale w ok A c L q s g n h h1 hg
      | true =>
        obtain ⟨k, x, hk, hx, hu, hxg, _⟩ := good_slot hg
        simp only at hk hxg
        subst hk hxg
        rcases (show q = 1 ∨ q = 2 ∨ q = 3 by omega) with rfl | rfl | rfl
        · exact rDo_get w ok A c L k x n h hx hu hl
        · exact rDo_swing w ok A c L k x n h hx hu hl
        · exact rDo_free w ok A c L k x n h hx hu hl
    · exact rDo_other w ok A c L q s g n h (by omega)
theorem doM_wf {L : List Sl} {o : OpT} (hw : ∀ x ∈ L, WfSl x) (hv : 0 ≤ o.2.2 ∧ o.2.2 < 18446744073709551616) : ∀ x ∈ (doM L o).1, WfSl x := by
  have hset : ∀ (k : Nat) (y : Sl), WfSl y → ∀ x ∈ L.set k y, WfSl x := by
    intro k y hy x hx
    rcases List.mem_or_eq_of_mem_set hx with hx | rfl
    · exact hw x hx
    · exact hy
  unfold doM
  split
  · split
    · rename_i k hk
      split
      · rename_i x hx
        refine hset _ _ ⟨⟨?_, ?_⟩, hv⟩
        · have := (hw x (List.mem_of_getElem? hx)).1.1
          simp only
          omega
        · obtain ⟨h1, h2, _⟩ := List.findIdx?_eq_some_iff_getElem.1 hk
          rw [List.getElem?_eq_getElem h1] at hx
          injection hx with hx
          rw [hx] at h2
          have : x.1 < 65535 := by
            have h3 := h2
            simp only [freeP, Bool.and_eq_true, decide_eq_true_eq] at h3
            exact h3.2
          simp only
          omega
      · exact hw
    · exact hw
  · split
    · split
      · rename_i hg
        obtain ⟨k, x, hk, hx, hu, hxg, _⟩ := good_slot hg
        rw [hk, Int.toNat_natCast, hx]
        have h1 := (hw x (List.mem_of_getElem? hx)).1
        simp only
        split
        · exact hw
        · split
          · exact hset _ _ ⟨by rw [← hxg]; exact h1, hv⟩
          · exact hset _ _ ⟨by rw [← hxg]; exact h1, Int.le_refl _, (by decide : (0 : Int) < 18446744073709551616)⟩
      · exact hw
    · exact hw
theorem doM_len (L : List Sl) (o : OpT) : (doM L o).1.length = L.length := by
  unfold doM
  repeat' split
  all_goals simp
end Go.Proofs.Ytbogfjadmiodkaa.Hand
