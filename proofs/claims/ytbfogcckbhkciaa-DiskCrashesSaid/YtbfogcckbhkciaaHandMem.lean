/- Small facts of blocks and cells. -/
import Derived.Test.YtbfogcckbhkciaaHandFlat
import Derived.Laws.ResultCell
import Derived.Laws.Rows
namespace Go.Proofs.Ytbfogcckbhkciaa.Hand
open Go.RowKit Go.Proofs.YtbfogcckbhkciaaW.PrintWords

theorem calls_as {P : Program} {f : FuncId} {args args' : Array Value} {w : World} {Q : Ending → World → Prop} (h : args = args') (hc : Calls P f args' w Q) : Calls P f args w Q := h ▸ hc
theorem new_cell (w : World) (vs : Array Value) (t : TypeId) (i : Nat) {v : Value} (h : vs[i]? = some v) : (w.alloc (.cells vs t (0, 0))).cell? ⟨w.heap.size, i, none⟩ = some v := by
  have hn := heap_alloc_new w (.cells vs t (0, 0))
  simp only [World.cell?, hn]
  simpa using h
theorem blk_lt {w : World} {b : Nat} {o : Obj} (h : w.heap[b]? = some o) : b < w.heap.size := (Array.getElem?_eq_some_iff.1 h).1
theorem old_blk {w : World} {b : Nat} {o : Obj} (h : w.heap[b]? = some o) (o' : Obj) : (w.alloc o').heap[b]? = some o := (heap_alloc_old _ _ (blk_lt h)).trans h
theorem cell_alloc {w : World} {a : Addr} {v : Value} (h : w.cell? a = some v) : ∀ o, (w.alloc o).cell? a = some v := fun o => by
  rw [World.cell?_alloc_lt _ _ _ (World.block_lt_of_cell? w a h)]
  exact h
/-- A cell of a block whose cells are known. -/
theorem blk_cell {w : World} {b : Nat} {vs : Array Value} {t : TypeId} {fr : Nat × Nat} (h : w.heap[b]? = some (.cells vs t fr)) {i : Nat} {v : Value} (hv : vs[i]? = some v) : w.cell? ⟨b, i, none⟩ = some v := by
  simp only [World.cell?, h]
  simpa using hv
theorem blk_free {w : World} {b : Nat} {vs : Array Value} {t : TypeId} (h : w.heap[b]? = some (.cells vs t (0, 0))) (i : Nat) : w.frozen? ⟨b, i, none⟩ = false := by
  simp only [World.frozen?, h]
  simp
theorem blk_set {w : World} {b : Nat} {vs : Array Value} {t : TypeId} {fr : Nat × Nat} (h : w.heap[b]? = some (.cells vs t fr)) (i : Nat) (u : Value) : (w.setCell ⟨b, i, none⟩ u).heap[b]? = some (.cells (vs.setIfInBounds i u) t fr) := by
  simp [World.setCell, Array.getElem?_modify, h]
theorem blk_far {w : World} {b : Nat} {o : Obj} (h : w.heap[b]? = some o) {a : Addr} (u : Value) (hne : b ≠ a.block) : (w.setCell a u).heap[b]? = some o := (Below.heap_setCell w a u b hne).trans h
theorem results_row_tmp {P : Program} {fn : Func} {p u : Tmp} {ty : TypeId} (h : fn.results = #[.cell p ty, .tmp u]) (tmps : Array Value) (w : World) (g : Nat) (t : TypeId) (cs : Array Value) (fr : Nat × Nat) (d : TypeDesc)
    (hp : tmps.getD p undef = .pointer (some ⟨g, 0, none⟩)) (hg : w.heap[g]? = some (.cells cs t fr))
    (hu : P.underlying ty = some d) (hd : (match d with | .struct _ | .array _ _ => true | _ => false) = true) (hi : (P.info? ty).map (·.size) = some cs.size) :
    (results fn tmps).run P w = .ok (.tuple #[.agg cs, tmps.getD u undef]) w := by
  rw [results_cell_tmp h, hp]
  simp [asAddr, run_loadVar_row w g t ty cs fr d hg hu hd hi]
theorem cell_far {w : World} {a : Addr} {v : Value} (h : w.cell? a = some v) {p : Addr} (u : Value) (hne : p.block ≠ a.block) : (w.setCell p u).cell? a = some v := (World.cell?_setCell_other w p a u (fun e => hne (by rw [e]))).trans h
theorem loadVar_one {P : Program} (w : World) (g : Nat) (ty : TypeId) {u : Value} (d : TypeDesc) (hc : w.cell? ⟨g, 0, none⟩ = some u) (hu : P.underlying ty = some d) (hd : (match d with | .struct _ | .array _ _ => true | _ => false) = false) :
    (loadVar ty ⟨g, 0, none⟩).run P w = .ok u w := by
  have hagg : (isAgg ty).run P w = .ok false w := by
    unfold isAgg
    rw [Sem.run_bind, run_underlying hu w]
    cases d <;> simp_all
  simp [loadVar, Sem.run_bind, hagg, run_load, hc]
theorem results_one_tmp {P : Program} {fn : Func} {p u : Tmp} {ty : TypeId} (h : fn.results = #[.cell p ty, .tmp u]) (tmps : Array Value) (w : World) (g : Nat) {v : Value} (d : TypeDesc)
    (hp : tmps.getD p undef = .pointer (some ⟨g, 0, none⟩)) (hc : w.cell? ⟨g, 0, none⟩ = some v) (hu : P.underlying ty = some d) (hd : (match d with | .struct _ | .array _ _ => true | _ => false) = false) :
    (results fn tmps).run P w = .ok (.tuple #[v, tmps.getD u undef]) w := by
  rw [results_cell_tmp h, hp]
  simp [asAddr, loadVar_one w g ty d hc hu hd]
theorem alloc_two (w : World) (o1 o2 : Obj) : ((w.alloc o1).alloc o2).heap[w.heap.size + 1]? = some o2 := by
  have := heap_alloc_new (w.alloc o1) o2
  simpa [World.alloc_eq] using this
theorem alloc_three (w : World) (o1 o2 o3 : Obj) : (((w.alloc o1).alloc o2).alloc o3).heap[w.heap.size + 1 + 1]? = some o3 := by
  have := heap_alloc_new ((w.alloc o1).alloc o2) o3
  simpa [World.alloc_eq] using this
theorem free_alloc {w : World} {a : Addr} (h : w.frozen? a = false) (hl : a.block < w.heap.size) : ∀ o, (w.alloc o).frozen? a = false := fun o => by
  have : (w.alloc o).heap[a.block]? = w.heap[a.block]? := heap_alloc_old _ _ hl
  simp only [World.frozen?, this]
  exact h
theorem add_plain (b o i : Nat) : (⟨b, o, none⟩ : Addr).add i = ⟨b, o + i, none⟩ := by
  unfold Addr.add
  split <;> simp_all
theorem spot_none {w : World} {a : Addr} {v : Value} (h : w.cell? a = some v) : a.spot = none := by
  unfold World.cell? at h
  split at h
  · split at h
    · cases h
    · rename_i hs
      simpa using hs
  · cases h
/-- A row that is read: its address, and its cells. -/
theorem C_at {α : Type} {enc : α → List Value} {sz : Nat} {hl : ∀ x, (enc x).length = sz} {h1 : ∀ x, ∀ u ∈ enc x, u.oneCell' = true} {w : World} {A : Option Addr} {n : Nat} {xs : List α} (h : (flat enc sz hl h1).C w A n xs) (hs : 0 < sz) {j : Nat} {x : α} (hx : xs[j]? = some x) :
    ∃ b o, A = some ⟨b, o, none⟩ ∧ ∀ i, i < sz → w.cell? ⟨b, o + j * sz + i, none⟩ = (enc x)[i]? := by
  obtain ⟨ad, hA, hc⟩ := C_flat h hx
  have hj : j < xs.length := (List.getElem?_eq_some_iff.1 hx).1
  have hx0 : xs[0]? = some (xs[0]'(by omega)) := List.getElem?_eq_getElem _
  obtain ⟨ad', hA', hc'⟩ := C_flat h hx0
  obtain rfl : ad = ad' := by rw [hA] at hA'; exact Option.some.inj hA'
  have h0 := hc' 0 hs
  have hz : (enc (xs[0]'(by omega)))[0]? = some ((enc (xs[0]'(by omega)))[0]'(by rw [hl]; exact hs)) := List.getElem?_eq_getElem _
  rw [hz] at h0
  have hsp := spot_none h0
  obtain ⟨b, o, sp⟩ := ad
  have : sp = none := by
    have h2 : ((⟨b, o, sp⟩ : Addr).add (0 * sz + 0)).spot = sp := by
      unfold Addr.add
      simp
    rw [h2] at hsp
    exact hsp
  subst this
  refine ⟨b, o, hA, fun i hi => ?_⟩
  have := hc i hi
  rw [add_plain] at this
  rw [← this, Nat.add_assoc]
end Go.Proofs.Ytbfogcckbhkciaa.Hand
