/- A call on slots, as the laws make it. -/
import Derived.Test.YtbogfjadmiodkaaHandSlR3
import Derived.Test.YtbogfjadmiodkaaHandSl5
import Derived.Test.YtbogfjadmiodkaaHandSl6
import Derived.Test.YtbogfjadmiodkaaHandSlAlive
import Derived.Deep.RegionHeld
namespace Go.Proofs.Ytbogfjadmiodkaa.Hand
open Go.RowKit Go.Proofs.YtbogfjadmiodkaaW.PrintWords
set_option linter.unusedVariables false

/-- What a call leaves. -/
def DoesRes (w : World) (p : Nat) (v : Value) (r : List Sl × (Int × Int) × Int × Int) (e : Ending) (w' : World) : Prop :=
  e = .returned (.tuple #[.agg #[.int .i64 r.2.1.1, .int .i64 r.2.1.2], .int .u64 r.2.2.1, .int .i64 r.2.2.2]) ∧ HasSl w' p v r.1 ∧ Fr (fun b => some b = v.ownBlock) w w'
theorem results_row_tt {P : Program} {fn : Func} {p u z : Tmp} {ty : TypeId} (h : fn.results = #[.cell p ty, .tmp u, .tmp z]) (tmps : Array Value) (w : World) (g : Nat) (t : TypeId) (cs : Array Value) (fr : Nat × Nat) (d : TypeDesc)
    (hp : tmps.getD p undef = .pointer (some ⟨g, 0, none⟩)) (hg : w.heap[g]? = some (.cells cs t fr))
    (hu : P.underlying ty = some d) (hd : (match d with | .struct _ | .array _ _ => true | _ => false) = true) (hi : (P.info? ty).map (·.size) = some cs.size) :
    (results fn tmps).run P w = .ok (.tuple #[.agg cs, tmps.getD u undef, tmps.getD z undef]) w := by
  have hp' : tmps[p]?.getD undef = .pointer (some ⟨g, 0, none⟩) := by simpa using hp
  simp [results, h, hp', asAddr, run_loadVar_row w g t ty cs fr d hg hu hd hi, Result.andThen]
theorem HasSl.set4 {w : World} {p : Nat} {v : Value} {L : List Sl} (h : HasSl w p v L) (a b c d : Value) {q r : Nat} (hp1 : p ≠ q) (hp2 : p ≠ r) (hq : ¬ some q = v.ownBlock) (hr : ¬ some r = v.ownBlock) :
    HasSl ((((w.setCell ⟨q, 0, none⟩ a).setCell ⟨q, 1, none⟩ b).setCell ⟨r, 0, none⟩ c).setCell ⟨r, 1, none⟩ d) p v L :=
  (((h.far ⟨q, 0, none⟩ a hp1 (fun e => hq e.symm)).far ⟨q, 1, none⟩ b hp1 (fun e => hq e.symm)).far ⟨r, 0, none⟩ c hp2 (fun e => hr e.symm)).far ⟨r, 1, none⟩ d hp2 (fun e => hr e.symm)
theorem HasSl.set2 {w : World} {p : Nat} {v : Value} {L : List Sl} (h : HasSl w p v L) (a b : Value) {q : Nat} (hp1 : p ≠ q) (hq : ¬ some q = v.ownBlock) :
    HasSl ((w.setCell ⟨q, 0, none⟩ a).setCell ⟨q, 1, none⟩ b) p v L :=
  (h.far ⟨q, 0, none⟩ a hp1 (fun e => hq e.symm)).far ⟨q, 1, none⟩ b hp1 (fun e => hq e.symm)
theorem fr_set4 {S : Nat → Prop} {w w1 : World} (h : Fr S w w1) (a b c d : Value) {q r : Nat} (hq : w.heap.size ≤ q) (hr : w.heap.size ≤ r) :
    Fr S w ((((w1.setCell ⟨q, 0, none⟩ a).setCell ⟨q, 1, none⟩ b).setCell ⟨r, 0, none⟩ c).setCell ⟨r, 1, none⟩ d) :=
  (((h.setCell (p := ⟨q, 0, none⟩) (.inr hq) a).setCell (p := ⟨q, 1, none⟩) (.inr hq) b).setCell (p := ⟨r, 0, none⟩) (.inr hr) c).setCell (p := ⟨r, 1, none⟩) (.inr hr) d
theorem fr_set2 {S : Nat → Prop} {w w1 : World} (h : Fr S w w1) (a b : Value) {q : Nat} (hq : w.heap.size ≤ q) :
    Fr S w ((w1.setCell ⟨q, 0, none⟩ a).setCell ⟨q, 1, none⟩ b) :=
  (h.setCell (p := ⟨q, 0, none⟩) (.inr hq) a).setCell (p := ⟨q, 1, none⟩) (.inr hq) b
theorem does_make_some (w : World) (p : Nat) (v : Value) (L : List Sl) (s g n : Int) (k : Nat) (x : Sl) (h : HasSl w p v L) (hk : L.findIdx? freeP = some k) (hx : L[k]? = some x) (hx0 : 0 ≤ x.1) :
    Calls Try.prog 26 #[.pointer (some ⟨p, 0, none⟩), .agg #[.int .i64 0, .int .i64 s, .int .i64 g, .int .u64 n]] w (DoesRes w p v (doM L (0, (s, g), n))) := by
  have HR := Aside0.mk h
  have HPL := Aside0.mk (blk_lt h.ptr)
  have HN1 := Aside0.mk (h.own_lt (k := w.heap.size + 1) (by omega))
  have HN2 := Aside0.mk (h.own_lt (k := w.heap.size + 1 + 1) (by omega))
  have HM := Aside0.mk (show doM L (0, (s, g), n) = (L.set k (x.1 + 1, true, n), ((k : Int), x.1 + 1), 0, 0) by rw [doM, if_pos rfl, hk]; simp only [hx])
  have HX := Aside0.mk hx
  have HK := Aside0.mk hk
  clear h hk hx
  go_enter Try.func26, Try.ntmps26
  go_wp2_with (go_at_call 30; (with_reducible refine (make_some _ p v L n k x (HR.out.move (below_alloc (below_alloc (below_alloc (Below.refl _ _) _) _) _)) HK.out HX.out hx0).mono ?_); rintro e w2 ⟨rfl, hs, hf⟩; have hzb := hf.get (old_blk (alloc_two w _ _) _) (HN1.out); have hyb := hf.get (alloc_three w _ _ _) HN2.out; have z0 := blk_cell hzb (i := 0) rfl; have z1 := blk_cell hzb (i := 1) rfl; have zf0 := blk_free hzb 0; have zf1 := blk_free hzb 1; have HZ2 := Aside0.mk hzb; have y0 := blk_cell hyb (i := 0) rfl; have y1 := blk_cell hyb (i := 1) rfl; have yf0 := blk_free hyb 0; have yf1 := blk_free hyb 1; have HY2 := Aside0.mk hyb; have HR2 := Aside0.mk hs; have HF2 := Aside0.mk ((Fr.of_below (below_alloc (below_alloc (below_alloc (Below.refl _ _) _) _) _) (fun b => some b = v.ownBlock)).trans' hf); clear hs hf hzb hyb)
  refine bodyPost_ret (results_row_tt rfl _ _ (w.heap.size + 1) _ _ _ _ rfl (blk_set (blk_set (blk_far (blk_far HZ2.out _ (by simp)) _ (by simp)) 0 _) 1 _) Try.underlying23 rfl (by kernel_rfl)) rfl ?_
  rw [HM.out]
  exact ⟨rfl, HR2.out.set4 _ _ _ _ (by have := HPL.out; omega) (by have := HPL.out; omega) HN2.out HN1.out, fr_set4 HF2.out _ _ _ _ (by omega) (by omega)⟩
theorem does_make_none (w : World) (p : Nat) (v : Value) (L : List Sl) (s g n : Int) (h : HasSl w p v L) (hk : L.findIdx? freeP = none) (hl : L.length ≤ 65536) :
    Calls Try.prog 26 #[.pointer (some ⟨p, 0, none⟩), .agg #[.int .i64 0, .int .i64 s, .int .i64 g, .int .u64 n]] w (DoesRes w p v (doM L (0, (s, g), n))) := by
  have HR := Aside0.mk h
  have HPL := Aside0.mk (blk_lt h.ptr)
  have HN1 := Aside0.mk (h.own_lt (k := w.heap.size + 1) (by omega))
  have HN2 := Aside0.mk (h.own_lt (k := w.heap.size + 1 + 1) (by omega))
  have HM := Aside0.mk (show doM L (0, (s, g), n) = (L, (0, 0), 0, 110) by rw [doM, if_pos rfl, hk])
  have HK := Aside0.mk hk
  clear h hk
  go_enter Try.func26, Try.ntmps26
  go_wp2_with (go_at_call 30; (with_reducible refine (make_none _ p v L n (HR.out.move (below_alloc (below_alloc (below_alloc (Below.refl _ _) _) _) _)) HK.out hl).mono ?_); rintro e w2 ⟨rfl, hb⟩; have hzb := (hb.block _ (by simp)).trans (old_blk (alloc_two w _ _) _); have hyb := (hb.block _ (by simp)).trans (alloc_three w _ _ _); have z0 := blk_cell hzb (i := 0) rfl; have z1 := blk_cell hzb (i := 1) rfl; have zf0 := blk_free hzb 0; have zf1 := blk_free hzb 1; have HZ2 := Aside0.mk hzb; have y0 := blk_cell hyb (i := 0) rfl; have y1 := blk_cell hyb (i := 1) rfl; have yf0 := blk_free hyb 0; have yf1 := blk_free hyb 1; have HY2 := Aside0.mk hyb; have HR2 := Aside0.mk ((HR.out.move (below_alloc (below_alloc (below_alloc (Below.refl _ _) _) _) _)).move hb); have HF2 := Aside0.mk (Fr.of_below (bel_step (below_alloc (below_alloc (below_alloc (Below.refl _ _) _) _) _) hb) (fun b => some b = v.ownBlock)); clear hb hzb hyb)
  refine bodyPost_ret (results_row_tt rfl _ _ (w.heap.size + 1) _ _ _ _ rfl (blk_set (blk_set (blk_far (blk_far HZ2.out _ (by simp)) _ (by simp)) 0 _) 1 _) Try.underlying23 rfl (by kernel_rfl)) rfl ?_
  rw [HM.out]
  exact ⟨rfl, HR2.out.set4 _ _ _ _ (by have := HPL.out; omega) (by have := HPL.out; omega) HN2.out HN1.out, fr_set4 HF2.out _ _ _ _ (by omega) (by omega)⟩
theorem does_get (w : World) (p : Nat) (v : Value) (L : List Sl) (k : Nat) (x : Sl) (n : Int) (h : HasSl w p v L) (hx : L[k]? = some x) (hu : x.2.1 = true) :
    Calls Try.prog 26 #[.pointer (some ⟨p, 0, none⟩), .agg #[.int .i64 1, .int .i64 k, .int .i64 x.1, .int .u64 n]] w (DoesRes w p v (doM L (1, ((k : Int), x.1), n))) := by
  have HR := Aside0.mk h
  have HPL := Aside0.mk (blk_lt h.ptr)
  have HN1 := Aside0.mk (h.own_lt (k := w.heap.size + 1) (by omega))
  have HN2 := Aside0.mk (h.own_lt (k := w.heap.size + 1 + 1) (by omega))
  have HG := Aside0.mk (show goodM L ((k : Int), x.1) = true by rw [goodM, atM, if_pos (by simp), Int.toNat_natCast, hx]; simp [hu])
  have HM := Aside0.mk (show doM L (1, ((k : Int), x.1), n) = (L, (0, 0), x.2.2, 0) by
    rw [doM, if_neg (by simp), if_pos (by simp), HG.out, if_pos rfl]
    simp [hx])
  have HX := Aside0.mk hx
  clear h hx
  go_enter Try.func26, Try.ntmps26
  go_wp2_with (go_at_call 27; (with_reducible refine (get_good _ p v L k x (HR.out.move (below_alloc (below_alloc (below_alloc (Below.refl _ _) _) _) _)) HX.out hu).mono ?_); rintro e w2 ⟨rfl, hb⟩; have hzb := (hb.block _ (by simp)).trans (old_blk (alloc_two w _ _) _); have hyb := (hb.block _ (by simp)).trans (alloc_three w _ _ _); have z0 := blk_cell hzb (i := 0) rfl; have z1 := blk_cell hzb (i := 1) rfl; have zf0 := blk_free hzb 0; have zf1 := blk_free hzb 1; have HZ2 := Aside0.mk hzb; have y0 := blk_cell hyb (i := 0) rfl; have y1 := blk_cell hyb (i := 1) rfl; have yf0 := blk_free hyb 0; have yf1 := blk_free hyb 1; have HY2 := Aside0.mk hyb; have HR2 := Aside0.mk ((HR.out.move (below_alloc (below_alloc (below_alloc (Below.refl _ _) _) _) _)).move hb); have HF2 := Aside0.mk (Fr.of_below (bel_step (below_alloc (below_alloc (below_alloc (Below.refl _ _) _) _) _) hb) (fun b => some b = v.ownBlock)); clear hb hzb hyb)
  refine bodyPost_ret (results_row_tt rfl _ _ (w.heap.size + 1) _ _ _ _ rfl (blk_set (blk_set HZ2.out 0 _) 1 _) Try.underlying23 rfl (by kernel_rfl)) rfl ?_
  rw [HM.out]
  exact ⟨rfl, HR2.out.set2 _ _ (by have := HPL.out; omega) HN1.out, fr_set2 HF2.out _ _ (by omega)⟩
theorem does_swing (w : World) (p : Nat) (v : Value) (L : List Sl) (k : Nat) (x : Sl) (n : Int) (h : HasSl w p v L) (hx : L[k]? = some x) (hu : x.2.1 = true) :
    Calls Try.prog 26 #[.pointer (some ⟨p, 0, none⟩), .agg #[.int .i64 2, .int .i64 k, .int .i64 x.1, .int .u64 n]] w (DoesRes w p v (doM L (2, ((k : Int), x.1), n))) := by
  have HR := Aside0.mk h
  have HPL := Aside0.mk (blk_lt h.ptr)
  have HN1 := Aside0.mk (h.own_lt (k := w.heap.size + 1) (by omega))
  have HN2 := Aside0.mk (h.own_lt (k := w.heap.size + 1 + 1) (by omega))
  have HG := Aside0.mk (show goodM L ((k : Int), x.1) = true by rw [goodM, atM, if_pos (by simp), Int.toNat_natCast, hx]; simp [hu])
  have HM := Aside0.mk (show doM L (2, ((k : Int), x.1), n) = (L.set k (x.1, true, n), (0, 0), 0, 0) by
    rw [doM, if_neg (by simp), if_pos (by simp), HG.out, if_pos rfl]
    simp [hx])
  have HX := Aside0.mk hx
  clear h hx
  go_enter Try.func26, Try.ntmps26
  go_wp2_with (go_at_call 28; (with_reducible refine (swing_good _ p v L k x n (HR.out.move (below_alloc (below_alloc (below_alloc (Below.refl _ _) _) _) _)) HX.out hu).mono ?_); rintro e w2 ⟨rfl, hs, hf⟩; have hzb := hf.get (old_blk (alloc_two w _ _) _) (HN1.out); have hyb := hf.get (alloc_three w _ _ _) HN2.out; have z0 := blk_cell hzb (i := 0) rfl; have z1 := blk_cell hzb (i := 1) rfl; have zf0 := blk_free hzb 0; have zf1 := blk_free hzb 1; have HZ2 := Aside0.mk hzb; have y0 := blk_cell hyb (i := 0) rfl; have y1 := blk_cell hyb (i := 1) rfl; have yf0 := blk_free hyb 0; have yf1 := blk_free hyb 1; have HY2 := Aside0.mk hyb; have HR2 := Aside0.mk hs; have HF2 := Aside0.mk ((Fr.of_below (below_alloc (below_alloc (below_alloc (Below.refl _ _) _) _) _) (fun b => some b = v.ownBlock)).trans' hf); clear hs hf hzb hyb)
  refine bodyPost_ret (results_row_tt rfl _ _ (w.heap.size + 1) _ _ _ _ rfl (blk_set (blk_set HZ2.out 0 _) 1 _) Try.underlying23 rfl (by kernel_rfl)) rfl ?_
  rw [HM.out]
  exact ⟨rfl, HR2.out.set2 _ _ (by have := HPL.out; omega) HN1.out, fr_set2 HF2.out _ _ (by omega)⟩
theorem does_free (w : World) (p : Nat) (v : Value) (L : List Sl) (k : Nat) (x : Sl) (n : Int) (h : HasSl w p v L) (hx : L[k]? = some x) (hu : x.2.1 = true) :
    Calls Try.prog 26 #[.pointer (some ⟨p, 0, none⟩), .agg #[.int .i64 3, .int .i64 k, .int .i64 x.1, .int .u64 n]] w (DoesRes w p v (doM L (3, ((k : Int), x.1), n))) := by
  have HR := Aside0.mk h
  have HPL := Aside0.mk (blk_lt h.ptr)
  have HN1 := Aside0.mk (h.own_lt (k := w.heap.size + 1) (by omega))
  have HN2 := Aside0.mk (h.own_lt (k := w.heap.size + 1 + 1) (by omega))
  have HG := Aside0.mk (show goodM L ((k : Int), x.1) = true by rw [goodM, atM, if_pos (by simp), Int.toNat_natCast, hx]; simp [hu])
  have HM := Aside0.mk (show doM L (3, ((k : Int), x.1), n) = (L.set k (x.1, false, 0), (0, 0), 0, 0) by
    rw [doM, if_neg (by simp), if_pos (by simp), HG.out, if_pos rfl]
    simp [hx])
  have HX := Aside0.mk hx
  clear h hx
  go_enter Try.func26, Try.ntmps26
  go_wp2_with (go_at_call 29; (with_reducible refine (free_good _ p v L k x (HR.out.move (below_alloc (below_alloc (below_alloc (Below.refl _ _) _) _) _)) HX.out hu).mono ?_); rintro e w2 ⟨rfl, hs, hf⟩; have hzb := hf.get (old_blk (alloc_two w _ _) _) (HN1.out); have hyb := hf.get (alloc_three w _ _ _) HN2.out; have z0 := blk_cell hzb (i := 0) rfl; have z1 := blk_cell hzb (i := 1) rfl; have zf0 := blk_free hzb 0; have zf1 := blk_free hzb 1; have HZ2 := Aside0.mk hzb; have y0 := blk_cell hyb (i := 0) rfl; have y1 := blk_cell hyb (i := 1) rfl; have yf0 := blk_free hyb 0; have yf1 := blk_free hyb 1; have HY2 := Aside0.mk hyb; have HR2 := Aside0.mk hs; have HF2 := Aside0.mk ((Fr.of_below (below_alloc (below_alloc (below_alloc (Below.refl _ _) _) _) _) (fun b => some b = v.ownBlock)).trans' hf); clear hs hf hzb hyb)
  refine bodyPost_ret (results_row_tt rfl _ _ (w.heap.size + 1) _ _ _ _ rfl (blk_set (blk_set HZ2.out 0 _) 1 _) Try.underlying23 rfl (by kernel_rfl)) rfl ?_
  rw [HM.out]
  exact ⟨rfl, HR2.out.set2 _ _ (by have := HPL.out; omega) HN1.out, fr_set2 HF2.out _ _ (by omega)⟩
theorem does_get_stale (w : World) (p : Nat) (v : Value) (L : List Sl) (s g n : Int) (h : HasSl w p v L) (hg : goodM L (s, g) = false) :
    Calls Try.prog 26 #[.pointer (some ⟨p, 0, none⟩), .agg #[.int .i64 1, .int .i64 s, .int .i64 g, .int .u64 n]] w (DoesRes w p v (doM L (1, (s, g), n))) := by
  have HR := Aside0.mk h
  have HPL := Aside0.mk (blk_lt h.ptr)
  have HN1 := Aside0.mk (h.own_lt (k := w.heap.size + 1) (by omega))
  have HN2 := Aside0.mk (h.own_lt (k := w.heap.size + 1 + 1) (by omega))
  have HM := Aside0.mk (show doM L (1, (s, g), n) = (L, (0, 0), 0, 111) by rw [doM, if_neg (by simp), if_pos (by simp), hg]; rfl)
  have HG := Aside0.mk hg
  clear h hg
  go_enter Try.func26, Try.ntmps26
  go_wp2_with (go_at_call 27; (with_reducible refine (get_stale _ p v L s g (HR.out.move (below_alloc (below_alloc (below_alloc (Below.refl _ _) _) _) _)) HG.out).mono ?_); rintro e w2 ⟨rfl, hb⟩; have hzb := (hb.block _ (by simp)).trans (old_blk (alloc_two w _ _) _); have hyb := (hb.block _ (by simp)).trans (alloc_three w _ _ _); have z0 := blk_cell hzb (i := 0) rfl; have z1 := blk_cell hzb (i := 1) rfl; have zf0 := blk_free hzb 0; have zf1 := blk_free hzb 1; have HZ2 := Aside0.mk hzb; have y0 := blk_cell hyb (i := 0) rfl; have y1 := blk_cell hyb (i := 1) rfl; have yf0 := blk_free hyb 0; have yf1 := blk_free hyb 1; have HY2 := Aside0.mk hyb; have HR2 := Aside0.mk ((HR.out.move (below_alloc (below_alloc (below_alloc (Below.refl _ _) _) _) _)).move hb); have HF2 := Aside0.mk (Fr.of_below (bel_step (below_alloc (below_alloc (below_alloc (Below.refl _ _) _) _) _) hb) (fun b => some b = v.ownBlock)); clear hb hzb hyb)
  refine bodyPost_ret (results_row_tt rfl _ _ (w.heap.size + 1) _ _ _ _ rfl (blk_set (blk_set HZ2.out 0 _) 1 _) Try.underlying23 rfl (by kernel_rfl)) rfl ?_
  rw [HM.out]
  exact ⟨rfl, HR2.out.set2 _ _ (by have := HPL.out; omega) HN1.out, fr_set2 HF2.out _ _ (by omega)⟩
theorem does_swing_stale (w : World) (p : Nat) (v : Value) (L : List Sl) (s g n : Int) (h : HasSl w p v L) (hg : goodM L (s, g) = false) :
    Calls Try.prog 26 #[.pointer (some ⟨p, 0, none⟩), .agg #[.int .i64 2, .int .i64 s, .int .i64 g, .int .u64 n]] w (DoesRes w p v (doM L (2, (s, g), n))) := by
  have HR := Aside0.mk h
  have HPL := Aside0.mk (blk_lt h.ptr)
  have HN1 := Aside0.mk (h.own_lt (k := w.heap.size + 1) (by omega))
  have HN2 := Aside0.mk (h.own_lt (k := w.heap.size + 1 + 1) (by omega))
  have HM := Aside0.mk (show doM L (2, (s, g), n) = (L, (0, 0), 0, 111) by rw [doM, if_neg (by simp), if_pos (by simp), hg]; rfl)
  have HG := Aside0.mk hg
  clear h hg
  go_enter Try.func26, Try.ntmps26
  go_wp2_with (go_at_call 28; (with_reducible refine (swing_stale _ p v L s g n (HR.out.move (below_alloc (below_alloc (below_alloc (Below.refl _ _) _) _) _)) HG.out).mono ?_); rintro e w2 ⟨rfl, hb⟩; have hzb := (hb.block _ (by simp)).trans (old_blk (alloc_two w _ _) _); have hyb := (hb.block _ (by simp)).trans (alloc_three w _ _ _); have z0 := blk_cell hzb (i := 0) rfl; have z1 := blk_cell hzb (i := 1) rfl; have zf0 := blk_free hzb 0; have zf1 := blk_free hzb 1; have HZ2 := Aside0.mk hzb; have y0 := blk_cell hyb (i := 0) rfl; have y1 := blk_cell hyb (i := 1) rfl; have yf0 := blk_free hyb 0; have yf1 := blk_free hyb 1; have HY2 := Aside0.mk hyb; have HR2 := Aside0.mk ((HR.out.move (below_alloc (below_alloc (below_alloc (Below.refl _ _) _) _) _)).move hb); have HF2 := Aside0.mk (Fr.of_below (bel_step (below_alloc (below_alloc (below_alloc (Below.refl _ _) _) _) _) hb) (fun b => some b = v.ownBlock)); clear hb hzb hyb)
  refine bodyPost_ret (results_row_tt rfl _ _ (w.heap.size + 1) _ _ _ _ rfl (blk_set (blk_set HZ2.out 0 _) 1 _) Try.underlying23 rfl (by kernel_rfl)) rfl ?_
  rw [HM.out]
  exact ⟨rfl, HR2.out.set2 _ _ (by have := HPL.out; omega) HN1.out, fr_set2 HF2.out _ _ (by omega)⟩
theorem does_free_stale (w : World) (p : Nat) (v : Value) (L : List Sl) (s g n : Int) (h : HasSl w p v L) (hg : goodM L (s, g) = false) :
    Calls Try.prog 26 #[.pointer (some ⟨p, 0, none⟩), .agg #[.int .i64 3, .int .i64 s, .int .i64 g, .int .u64 n]] w (DoesRes w p v (doM L (3, (s, g), n))) := by
  have HR := Aside0.mk h
  have HPL := Aside0.mk (blk_lt h.ptr)
  have HN1 := Aside0.mk (h.own_lt (k := w.heap.size + 1) (by omega))
  have HN2 := Aside0.mk (h.own_lt (k := w.heap.size + 1 + 1) (by omega))
  have HM := Aside0.mk (show doM L (3, (s, g), n) = (L, (0, 0), 0, 111) by rw [doM, if_neg (by simp), if_pos (by simp), hg]; rfl)
  have HG := Aside0.mk hg
  clear h hg
  go_enter Try.func26, Try.ntmps26
  go_wp2_with (go_at_call 29; (with_reducible refine (free_stale _ p v L s g (HR.out.move (below_alloc (below_alloc (below_alloc (Below.refl _ _) _) _) _)) HG.out).mono ?_); rintro e w2 ⟨rfl, hb⟩; have hzb := (hb.block _ (by simp)).trans (old_blk (alloc_two w _ _) _); have hyb := (hb.block _ (by simp)).trans (alloc_three w _ _ _); have z0 := blk_cell hzb (i := 0) rfl; have z1 := blk_cell hzb (i := 1) rfl; have zf0 := blk_free hzb 0; have zf1 := blk_free hzb 1; have HZ2 := Aside0.mk hzb; have y0 := blk_cell hyb (i := 0) rfl; have y1 := blk_cell hyb (i := 1) rfl; have yf0 := blk_free hyb 0; have yf1 := blk_free hyb 1; have HY2 := Aside0.mk hyb; have HR2 := Aside0.mk ((HR.out.move (below_alloc (below_alloc (below_alloc (Below.refl _ _) _) _) _)).move hb); have HF2 := Aside0.mk (Fr.of_below (bel_step (below_alloc (below_alloc (below_alloc (Below.refl _ _) _) _) _) hb) (fun b => some b = v.ownBlock)); clear hb hzb hyb)
  refine bodyPost_ret (results_row_tt rfl _ _ (w.heap.size + 1) _ _ _ _ rfl (blk_set (blk_set HZ2.out 0 _) 1 _) Try.underlying23 rfl (by kernel_rfl)) rfl ?_
  rw [HM.out]
  exact ⟨rfl, HR2.out.set2 _ _ (by have := HPL.out; omega) HN1.out, fr_set2 HF2.out _ _ (by omega)⟩
theorem does_low (w : World) (p : Nat) (v : Value) (L : List Sl) (q s g n : Int) (h : HasSl w p v L) (hq : q < 0) :
    Calls Try.prog 26 #[.pointer (some ⟨p, 0, none⟩), .agg #[.int .i64 q, .int .i64 s, .int .i64 g, .int .u64 n]] w (DoesRes w p v (doM L (q, (s, g), n))) := by
  have HR := Aside0.mk h
  have HPL := Aside0.mk (blk_lt h.ptr)
  have HN1 := Aside0.mk (h.own_lt (k := w.heap.size + 1) (by omega))
  have HN2 := Aside0.mk (h.own_lt (k := w.heap.size + 1 + 1) (by omega))
  have HM := Aside0.mk (show doM L (q, (s, g), n) = (L, (0, 0), 0, 0) by rw [doM, if_neg (by simp only; omega), if_neg (by simp only; omega)])
  have hq0 : (q == 0) = false := by simp; omega
  have hq1 : (q == 1) = false := by simp; omega
  have hq2 : (q == 2) = false := by simp; omega
  have hq3 : (q == 3) = false := by simp; omega
  clear h
  go_enter Try.func26, Try.ntmps26
  go_wp2
  refine bodyPost_ret (results_row_tt rfl _ _ (w.heap.size + 1) _ _ _ _ rfl (old_blk (alloc_two w _ _) _) Try.underlying23 rfl (by kernel_rfl)) rfl ?_
  rw [HM.out]
  exact ⟨rfl, (HR.out.move (below_alloc (below_alloc (below_alloc (Below.refl _ _) _) _) _)), (Fr.of_below (below_alloc (below_alloc (below_alloc (Below.refl _ _) _) _) _) (fun b => some b = v.ownBlock))⟩
theorem does_high (w : World) (p : Nat) (v : Value) (L : List Sl) (q s g n : Int) (h : HasSl w p v L) (hq : 3 < q) :
    Calls Try.prog 26 #[.pointer (some ⟨p, 0, none⟩), .agg #[.int .i64 q, .int .i64 s, .int .i64 g, .int .u64 n]] w (DoesRes w p v (doM L (q, (s, g), n))) := by
  have HR := Aside0.mk h
  have HPL := Aside0.mk (blk_lt h.ptr)
  have HN1 := Aside0.mk (h.own_lt (k := w.heap.size + 1) (by omega))
  have HN2 := Aside0.mk (h.own_lt (k := w.heap.size + 1 + 1) (by omega))
  have HM := Aside0.mk (show doM L (q, (s, g), n) = (L, (0, 0), 0, 0) by rw [doM, if_neg (by simp only; omega), if_neg (by simp only; omega)])
  have hq0 : (q == 0) = false := by simp; omega
  have hq1 : (q == 1) = false := by simp; omega
  have hq2 : (q == 2) = false := by simp; omega
  have hq3 : (q == 3) = false := by simp; omega
  clear h
  go_enter Try.func26, Try.ntmps26
  go_wp2
  refine bodyPost_ret (results_row_tt rfl _ _ (w.heap.size + 1) _ _ _ _ rfl (old_blk (alloc_two w _ _) _) Try.underlying23 rfl (by kernel_rfl)) rfl ?_
  rw [HM.out]
  exact ⟨rfl, (HR.out.move (below_alloc (below_alloc (below_alloc (Below.refl _ _) _) _) _)), (Fr.of_below (below_alloc (below_alloc (below_alloc (Below.refl _ _) _) _) _) (fun b => some b = v.ownBlock))⟩
theorem does_calls (w : World) (p : Nat) (v : Value) (L : List Sl) (q s g n : Int) (h : HasSl w p v L) (hw : ∀ x ∈ L, WfSl x) (hl : L.length ≤ 65536) :
    Calls Try.prog 26 #[.pointer (some ⟨p, 0, none⟩), .agg #[.int .i64 q, .int .i64 s, .int .i64 g, .int .u64 n]] w (DoesRes w p v (doM L (q, (s, g), n))) := by
  by_cases h0 : q = 0
  · subst h0
    cases hk : L.findIdx? freeP with
    | some k =>
      obtain ⟨h1, h2, h3⟩ := List.findIdx?_eq_some_iff_getElem.1 hk
      obtain ⟨x, hx⟩ : ∃ x, L[k]? = some x := ⟨_, List.getElem?_eq_getElem h1⟩
      exact does_make_some w p v L s g n k x h hk hx (hw x (List.mem_of_getElem? hx)).1.1
    | none => exact does_make_none w p v L s g n h hk hl
  · by_cases h1 : 1 ≤ q ∧ q ≤ 3
    · cases hg : goodM L (s, g) with
      | false =>
        rcases (show q = 1 ∨ q = 2 ∨ q = 3 by omega) with rfl | rfl | rfl
        · exact does_get_stale w p v L s g n h hg
        · exact does_swing_stale w p v L s g n h hg
        · exact does_free_stale w p v L s g n h hg
      | true =>
        obtain ⟨k, x, hk, hx, hu, hxg, _⟩ := good_slot hg
        simp only at hk hxg
        subst hk hxg
        rcases (show q = 1 ∨ q = 2 ∨ q = 3 by omega) with rfl | rfl | rfl
        · exact does_get w p v L k x n h hx hu
        · exact does_swing w p v L k x n h hx hu
        · exact does_free w p v L k x n h hx hu
    · rcases (show q < 0 ∨ 3 < q by omega) with h2 | h2
      · exact does_low w p v L q s g n h h2
      · exact does_high w p v L q s g n h h2
end Go.Proofs.Ytbogfjadmiodkaa.Hand
