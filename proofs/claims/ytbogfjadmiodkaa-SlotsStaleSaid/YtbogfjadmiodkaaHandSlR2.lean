/- The document's answer for layer 11: Make and Do. -/
import Derived.Test.YtbogfjadmiodkaaHandSlR1
namespace Go.Proofs.Ytbogfjadmiodkaa.Hand
open Go.RowKit Go.Proofs.YtbogfjadmiodkaaW.PrintWords

theorem results_t_row_t {P : Program} {fn : Func} {q p u : Tmp} {ty : TypeId} (h : fn.results = #[.tmp q, .cell p ty, .tmp u]) (tmps : Array Value) (w : World) (g : Nat) (t : TypeId) (cs : Array Value) (fr : Nat × Nat) (d : TypeDesc)
    (hp : tmps.getD p undef = .pointer (some ⟨g, 0, none⟩)) (hg : w.heap[g]? = some (.cells cs t fr))
    (hu : P.underlying ty = some d) (hd : (match d with | .struct _ | .array _ _ => true | _ => false) = true) (hi : (P.info? ty).map (·.size) = some cs.size) :
    (results fn tmps).run P w = .ok (.tuple #[tmps.getD q undef, .agg cs, tmps.getD u undef]) w := by
  have hp' : tmps[p]?.getD undef = .pointer (some ⟨g, 0, none⟩) := by simpa using hp
  simp [results, h, hp', asAddr, run_loadVar_row w g t ty cs fr d hg hu hd hi, Result.andThen]
theorem results_t_row_tt {P : Program} {fn : Func} {q p u z : Tmp} {ty : TypeId} (h : fn.results = #[.tmp q, .cell p ty, .tmp u, .tmp z]) (tmps : Array Value) (w : World) (g : Nat) (t : TypeId) (cs : Array Value) (fr : Nat × Nat) (d : TypeDesc)
    (hp : tmps.getD p undef = .pointer (some ⟨g, 0, none⟩)) (hg : w.heap[g]? = some (.cells cs t fr))
    (hu : P.underlying ty = some d) (hd : (match d with | .struct _ | .array _ _ => true | _ => false) = true) (hi : (P.info? ty).map (·.size) = some cs.size) :
    (results fn tmps).run P w = .ok (.tuple #[tmps.getD q undef, .agg cs, tmps.getD u undef, tmps.getD z undef]) w := by
  have hp' : tmps[p]?.getD undef = .pointer (some ⟨g, 0, none⟩) := by simpa using hp
  simp [results, h, hp', asAddr, run_loadVar_row w g t ty cs fr d hg hu hd hi, Result.andThen]
theorem rMake_some (w : World) (A : Option Addr) (c : Nat) (L : List Sl) (n : Int) (k : Nat) (x : Sl) (h : RdS w A L) (hk : L.findIdx? freeP = some k) (hx : L[k]? = some x) (hx0 : 0 ≤ x.1) (hl : L.length ≤ 65536) :
    Calls Try.prog 49 #[.slice A L.length c, .int .u64 n] w fun e w' => ∃ u, e = .returned (.tuple #[u, (.agg #[.int .i64 k, .int .i64 (x.1 + 1)] : Value), .int .i64 0]) ∧ SlK.R 57 w' 0 (New w) u (L.set k (x.1 + 1, true, n)) ∧ Below w.heap.size w w' := by
  have hkl : k < L.length := (List.getElem?_eq_some_iff.1 hx).1
  obtain ⟨h1, h2, h3⟩ := List.findIdx?_eq_some_iff_getElem.1 hk
  have hfx : freeP x = true := by
    rw [List.getElem?_eq_getElem h1] at hx
    injection hx with hx
    rw [← hx]
    exact h2
  obtain ⟨hfu, hfg⟩ : x.2.1 = false ∧ x.1 < 65535 := by simpa [freeP] using hfx
  have HH := Aside0.mk h
  have HK := Aside0.mk (show ∀ j y, j < k → L[j]? = some y → freeP y = false by
    intro j y hj hy
    have h4 := h3 j hj
    rw [List.getElem?_eq_getElem (by omega)] at hy
    injection hy with hy
    rw [← hy]
    simpa using h4)
  have HX := Aside0.mk hx
  clear h hk hx hfx h1 h2 h3
  go_enter Try.func49, Try.ntmps49
  go_wp2
  go_loopw [7] (fun i wr => ∃ j : Nat, j ≤ k ∧ i = .int .i64 j ∧ Aside0 (Below w.heap.size w wr) ∧ Aside0 (wr.heap[w.heap.size]? = some (.cells #[.int .i64 0, .int .i64 0] 23 (0, 0)))) (fun i _ => (k + 1 - intOf i).toNat)
  case atStart => exact ⟨0, Nat.zero_le _, rfl, ⟨below_alloc (Below.refl _ _) _⟩, ⟨heap_alloc_new w _⟩⟩
  case round =>
    obtain ⟨j, hj, rfl, HB, HZ⟩ := hrel
    obtain ⟨y, hy⟩ : ∃ y, L[j]? = some y := ⟨_, List.getElem?_eq_getElem (by omega)⟩
    have HRw := Aside0.mk (HH.out.below HB.out)
    obtain ⟨g, o, hA, c0, c1, c2⟩ := HRw.out.cells hy
    subst hA
    by_cases hjk : j < k
    · have hfy := HK.out j y hjk hy
      cases hyu : y.2.1 with
      | true =>
        rw [hyu] at c1
        go_wp2
        go_roundw
        case rel => exact ⟨j + 1, by omega, by go_num, HB, HZ⟩
        case measure => (simp [intOf]) <;> omega
      | false =>
        rw [hyu] at c1
        have hyg : 65535 ≤ y.1 := by simpa [freeP, hyu] using hfy
        go_wp2
        go_roundw
        case rel => exact ⟨j + 1, by omega, by go_num, HB, HZ⟩
        case measure => (simp [intOf]) <;> omega
    · obtain rfl : j = k := by omega
      have hxy : y = x := by have := HX.out; rw [hy] at this; exact Option.some.inj this
      subst hxy
      rw [hfu] at c1
      have hwr : IntKind.i64.wrap (y.1 + 1) = y.1 + 1 := IntWalk.i64_in _ (by omega)
      go_wp2_with (go_at_call 50; (with_reducible refine (with_calls _ (some ⟨g, o, none⟩) c L j (y.1 + 1, true, n) HRw.out hkl hl).mono ?_); rintro e w2 ⟨u, rfl, hr2, hb2⟩; have HR2 := Aside0.mk hr2; have HB2 := Aside0.mk (bel_step HB.out hb2); have hzb := (hb2.block _ (blk_lt HZ.out)).trans HZ.out; have z0 := blk_cell hzb (i := 0) rfl; have z1 := blk_cell hzb (i := 1) rfl; have zf0 := blk_free hzb 0; have zf1 := blk_free hzb 1; have HZ2 := Aside0.mk hzb; clear hr2 hb2 hzb)
      refine bodyPost_ret (results_t_row_t rfl _ _ _ _ _ _ _ rfl (blk_set (blk_set HZ2.out 0 _) 1 _) Try.underlying23 rfl (by kernel_rfl)) rfl ?_
      have hwn : ∀ k, New wr k → k ≠ w.heap.size := fun k hk => by
        have h1 : wr.heap.size ≤ k := hk
        have h2 := blk_lt HZ.out
        omega
      refine ⟨u, rfl, Kd.R_mono (Kd.R_far (p := ⟨w.heap.size, 1, none⟩) (Kd.R_far (p := ⟨w.heap.size, 0, none⟩) HR2.out hwn _) hwn _) (fun k hk => Nat.le_trans HB.out.size hk), ?_⟩
      exact (HB2.out.setCell (p := ⟨w.heap.size, 0, none⟩) (Nat.le_refl _) _).setCell (p := ⟨w.heap.size, 1, none⟩) (Nat.le_refl _) _
theorem rMake_none (w : World) (A : Option Addr) (c : Nat) (L : List Sl) (n : Int) (h : RdS w A L) (hk : L.findIdx? freeP = none) (hl : L.length ≤ 65536) :
    Calls Try.prog 49 #[.slice A L.length c, .int .u64 n] w fun e w' => e = .returned (.tuple #[.slice A L.length c, (.agg #[.int .i64 0, .int .i64 0] : Value), .int .i64 110]) ∧ Below w.heap.size w w' := by
  have HH := Aside0.mk h
  have HK := Aside0.mk (show ∀ j y, L[j]? = some y → freeP y = false by
    intro j y hy
    have h1 := List.findIdx?_eq_none_iff.1 hk y (List.mem_of_getElem? hy)
    simpa using h1)
  clear h hk
  go_enter Try.func49, Try.ntmps49
  go_wp2
  go_loopw [7] (fun i wr => ∃ j : Nat, j ≤ L.length ∧ i = .int .i64 j ∧ Aside0 (Below w.heap.size w wr) ∧ Aside0 (wr.heap[w.heap.size]? = some (.cells #[.int .i64 0, .int .i64 0] 23 (0, 0)))) (fun i _ => (L.length + 1 - intOf i).toNat)
  case atStart => exact ⟨0, Nat.zero_le _, rfl, ⟨below_alloc (Below.refl _ _) _⟩, ⟨heap_alloc_new w _⟩⟩
  case round =>
    obtain ⟨j, hj, rfl, HB, HZ⟩ := hrel
    by_cases hjk : j < L.length
    · obtain ⟨y, hy⟩ : ∃ y, L[j]? = some y := ⟨_, List.getElem?_eq_getElem hjk⟩
      have HRw := Aside0.mk (HH.out.below HB.out)
      obtain ⟨g, o, hA, c0, c1, c2⟩ := HRw.out.cells hy
      subst hA
      have hfy := HK.out j y hy
      cases hyu : y.2.1 with
      | true =>
        rw [hyu] at c1
        go_wp2
        go_roundw
        case rel => exact ⟨j + 1, by omega, by go_num, HB, HZ⟩
        case measure => (simp [intOf]) <;> omega
      | false =>
        rw [hyu] at c1
        have hyg : 65535 ≤ y.1 := by simpa [freeP, hyu] using hfy
        go_wp2
        go_roundw
        case rel => exact ⟨j + 1, by omega, by go_num, HB, HZ⟩
        case measure => (simp [intOf]) <;> omega
    · obtain rfl : j = L.length := by omega
      have hzb := HZ.out
      have z0 := blk_cell hzb (i := 0) rfl
      have z1 := blk_cell hzb (i := 1) rfl
      have zf0 := blk_free hzb 0
      have zf1 := blk_free hzb 1
      clear hzb
      go_wp2
      refine bodyPost_ret (results_t_row_t rfl _ _ _ _ _ _ _ rfl (blk_set (blk_set HZ.out 0 _) 1 _) Try.underlying23 rfl (by kernel_rfl)) rfl ?_
      exact ⟨rfl, (HB.out.setCell (p := ⟨w.heap.size, 0, none⟩) (Nat.le_refl _) _).setCell (p := ⟨w.heap.size, 1, none⟩) (Nat.le_refl _) _⟩
/-- A call, as the document does it: the slots, the handle, the number, the error. -/
abbrev OpT := Int × (Int × Int) × Int
def doM (L : List Sl) (o : OpT) : List Sl × (Int × Int) × Int × Int :=
  if o.1 = 0 then match L.findIdx? freeP with
    | some k => match L[k]? with
      | some x => (L.set k (x.1 + 1, true, o.2.2), ((k : Int), x.1 + 1), 0, 0)
      | none => (L, (0, 0), 0, 110)
    | none => (L, (0, 0), 0, 110)
  else if 1 ≤ o.1 ∧ o.1 ≤ 3 then
    if goodM L o.2.1 then match L[o.2.1.1.toNat]? with
      | some x => if o.1 = 1 then (L, (0, 0), x.2.2, 0) else if o.1 = 2 then (L.set o.2.1.1.toNat (o.2.1.2, true, o.2.2), (0, 0), 0, 0) else (L.set o.2.1.1.toNat (o.2.1.2, false, 0), (0, 0), 0, 0)
      | none => (L, (0, 0), 0, 111)
    else (L, (0, 0), 0, 111)
  else (L, (0, 0), 0, 0)
end Go.Proofs.Ytbogfjadmiodkaa.Hand
