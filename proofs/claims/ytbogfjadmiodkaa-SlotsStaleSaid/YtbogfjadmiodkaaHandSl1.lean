/- Slots as they lie in memory; what New, Len, Used and At answer. -/
import Derived.Test.YtbogfjadmiodkaaHandPuts2
import Derived.Test.YtbogfjadmiodkaaHandFlat
import Derived.Deep.QuietTactic
import Derived.Test.YtbogfjadmiodkaaHandMem
namespace Go.Proofs.Ytbogfjadmiodkaa.Hand
open Go.RowKit Go.Proofs.YtbogfjadmiodkaaW.PrintWords

/-- A slot: its generation, whether it is used, its number. -/
abbrev Sl := Int × Bool × Int
def encSl (x : Sl) : List Value := [.int .i64 x.1, .bool x.2.1, .int .u64 x.2.2]
theorem encSl_len (x : Sl) : (encSl x).length = 3 := rfl
theorem encSl_one (x : Sl) : ∀ u ∈ encSl x, u.oneCell' = true := by
  intro u hu
  simp only [encSl, List.mem_cons, List.not_mem_nil, or_false] at hu
  rcases hu with rfl | rfl | rfl <;> rfl
def SlK : Kd Sl := flat encSl 3 encSl_len encSl_one
/-- Slots behind a pointer. -/
structure HasSl (w : World) (p : Nat) (v : Value) (L : List Sl) : Prop where
  ptr : w.heap[p]? = some (.cells #[v] 68 (0, 0))
  row : SlK.R 70 w 0 (fun k => k ≠ p) v L

def handV (h : Int × Int) : Value := .agg #[.int .i64 h.1, .int .i64 h.2]
/-- The generation of a used slot. -/
def atM (L : List Sl) (k : Int) : Option Int := if 0 ≤ k then match L[k.toNat]? with | some x => if x.2.1 then some x.1 else none | none => none else none
def atV (L : List Sl) (k : Int) : Value := match atM L k with | some g => .tuple #[handV (k, g), .bool true] | none => .tuple #[handV (0, 0), .bool false]
theorem slot_cells {w : World} {p g n cap : Nat} {L : List Sl} (h : HasSl w p (.slice (some ⟨g, 0, none⟩) n cap) L) {k : Nat} {x : Sl} (hx : L[k]? = some x) :
    (w.cell? ⟨g, k * 3, none⟩ = some (.int .i64 x.1) ∧ w.cell? ⟨g, k * 3 + 1, none⟩ = some (.bool x.2.1) ∧ w.cell? ⟨g, k * 3 + 2, none⟩ = some (.int .u64 x.2.2)) ∧
    (w.frozen? ⟨g, k * 3, none⟩ = false ∧ w.frozen? ⟨g, k * 3 + 1, none⟩ = false ∧ w.frozen? ⟨g, k * 3 + 2, none⟩ = false) := by
  have h0 := flat_cell h.row hx (i := 0) (by decide)
  have h1 := flat_cell h.row hx (i := 1) (by decide)
  have h2 := flat_cell h.row hx (i := 2) (by decide)
  exact ⟨⟨h0.1, h1.1, h2.1⟩, h0.2, h1.2, h2.2⟩
theorem HasSl.form {w : World} {p : Nat} {v : Value} {L : List Sl} (h : HasSl w p v L) : (v = .slice none 0 0 ∧ L = []) ∨ ∃ g cap, v = .slice (some ⟨g, 0, none⟩) L.length cap ∧ g ≠ p ∧ L.length ≤ cap ∧ cap ≤ 9223372036854775807 := by
  rcases flat_slice h.row with h1 | ⟨g, cap, rfl, _, hp, h2, h3⟩
  · exact .inl h1
  · exact .inr ⟨g, cap, rfl, hp, h2, h3⟩
theorem HasSl.move {w w1 : World} {p : Nat} {v : Value} {L : List Sl} (h : HasSl w p v L) (hb : Below w.heap.size w w1) : HasSl w1 p v L :=
  ⟨(hb.block p (Array.getElem?_eq_some_iff.1 h.ptr).1).trans h.ptr, Kd.R_below h.row hb⟩
theorem HasSl.same {w w1 : World} {p : Nat} {v : Value} {L : List Sl} (h : HasSl w p v L) (hp : w1.heap[p]? = w.heap[p]?) (hv : ∀ k, v.ownBlock = some k → w1.heap[k]? = w.heap[k]?) : HasSl w1 p v L := by
  obtain ⟨h0, ho⟩ := R_flat.1 h.row
  exact ⟨hp.trans h.ptr, R_flat.2 ⟨h0, own_move ho hv⟩⟩
theorem HasSl.far {w : World} {p : Nat} {v : Value} {L : List Sl} (h : HasSl w p v L) (a : Addr) (u : Value) (hp : p ≠ a.block) (hv : v.ownBlock ≠ some a.block) : HasSl (w.setCell a u) p v L :=
  h.same (Below.heap_setCell w a u p hp) (fun k hk => Below.heap_setCell w a u k (fun e => hv (by rw [hk, e])))
/-- A slot is written over. -/
def putSl (w : World) (g k : Nat) (x : Sl) : World := ((w.setCell ⟨g, k * 3, none⟩ (.int .i64 x.1)).setCell ⟨g, k * 3 + 1, none⟩ (.bool x.2.1)).setCell ⟨g, k * 3 + 2, none⟩ (.int .u64 x.2.2)
theorem HasSl.put {w : World} {p g n cap : Nat} {L : List Sl} (h : HasSl w p (.slice (some ⟨g, 0, none⟩) n cap) L) (hg : g ≠ p) {k : Nat} {x : Sl} (hx : L[k]? = some x) (y : Sl) : HasSl (putSl w g k y) p (.slice (some ⟨g, 0, none⟩) n cap) (L.set k y) := by
  have hl := (List.getElem?_eq_some_iff.1 hx).1
  refine ⟨blk_far (blk_far (blk_far h.ptr _ (fun e => hg e.symm)) _ (fun e => hg e.symm)) _ (fun e => hg e.symm), ?_⟩
  have h1 := flat_set h.row hx (i := 0) (x' := (y.1, x.2.1, x.2.2)) (u := .int .i64 y.1) (by decide) rfl
  have h2 := flat_set h1 (List.getElem?_set_self hl) (i := 1) (x' := (y.1, y.2.1, x.2.2)) (u := .bool y.2.1) (by decide) rfl
  rw [List.set_set] at h2
  have h3 := flat_set h2 (List.getElem?_set_self hl) (i := 2) (x' := (y.1, y.2.1, y.2.2)) (u := .int .u64 y.2.2) (by decide) rfl
  rw [List.set_set] at h3
  exact h3
theorem fr_putSl (w : World) (g k : Nat) (x : Sl) : Fr (fun b => b = g) w (putSl w g k x) :=
  (((Fr.refl (fun b => b = g) w).setCell (p := ⟨g, k * 3, none⟩) (.inl rfl) _).setCell (p := ⟨g, k * 3 + 1, none⟩) (.inl rfl) _).setCell (p := ⟨g, k * 3 + 2, none⟩) (.inl rfl) _
theorem len_calls (w : World) (p : Nat) (v : Value) (L : List Sl) (h : HasSl w p v L) :
    Calls Try.prog 18 #[.pointer (some ⟨p, 0, none⟩)] w fun e w' => e = .returned (.int .i64 L.length) ∧ w = w' := by
  obtain ⟨A, c, rfl, hlc, hC⟩ := flat_reads h.row
  have hc := cell_of_one h.ptr
  go_enter Try.func18, Try.ntmps18
  go_wp2
  go_ret
  exact ⟨rfl, rfl⟩
theorem at_calls (w : World) (p : Nat) (v : Value) (L : List Sl) (k : Int) (h : HasSl w p v L) :
    Calls Try.prog 32 #[.pointer (some ⟨p, 0, none⟩), .int .i64 k] w fun e w' => e = .returned (atV L k) ∧ Below w.heap.size w w' := by
  have hc := cell_alloc (cell_of_one h.ptr)
  by_cases hk : 0 ≤ k
  · obtain ⟨k, rfl⟩ := Int.eq_ofNat_of_zero_le hk
    clear hk
    by_cases hl : k < L.length
    · obtain ⟨x, hx⟩ : ∃ x, L[k]? = some x := ⟨_, List.getElem?_eq_getElem hl⟩
      rcases h.form with ⟨rfl, rfl⟩ | ⟨g, cap, rfl, hg, hcap, hcap2⟩
      · simp at hl
      · obtain ⟨⟨c0, c1, c2⟩, _⟩ := slot_cells h hx
        replace c0 := cell_alloc c0
        replace c1 := cell_alloc c1
        have HX := Aside0.mk hx
        clear hx h
        cases hu : x.2.1 with
        | true =>
          rw [hu] at c1
          have HV := Aside0.mk (show atV L k = .tuple #[handV (k, x.1), .bool true] by rw [atV, atM, if_pos (by omega), Int.toNat_natCast, HX.out]; simp [hu])
          go_enter Try.func32, Try.ntmps32
          go_wp2
          refine bodyPost_ret (results_row_tmp rfl _ _ _ _ _ _ _ rfl (heap_alloc_new w _) Try.underlying23 rfl (by kernel_rfl)) rfl ?_
          rw [HV.out]
          exact ⟨rfl, below_alloc (Below.refl _ _) _⟩
        | false =>
          rw [hu] at c1
          have HV := Aside0.mk (show atV L k = .tuple #[handV (0, 0), .bool false] by rw [atV, atM, if_pos (by omega), Int.toNat_natCast, HX.out]; simp [hu])
          go_enter Try.func32, Try.ntmps32
          go_wp2
          refine bodyPost_ret (results_row_tmp rfl _ _ _ _ _ _ _ rfl (heap_alloc_new w _) Try.underlying23 rfl (by kernel_rfl)) rfl ?_
          rw [HV.out]
          exact ⟨rfl, below_alloc (Below.refl _ _) _⟩
    · obtain ⟨A, c, rfl, hlc, hC⟩ := flat_reads h.row
      have HV := Aside0.mk (show atV L k = .tuple #[handV (0, 0), .bool false] by rw [atV, atM, if_pos (by omega), Int.toNat_natCast, List.getElem?_eq_none (by omega)])
      go_enter Try.func32, Try.ntmps32
      go_wp2
      refine bodyPost_ret (results_row_tmp rfl _ _ _ _ _ _ _ rfl (heap_alloc_new w _) Try.underlying23 rfl (by kernel_rfl)) rfl ?_
      rw [HV.out]
      exact ⟨rfl, below_alloc (Below.refl _ _) _⟩
  · have HV := Aside0.mk (show atV L k = .tuple #[handV (0, 0), .bool false] by rw [atV, atM, if_neg hk])
    go_enter Try.func32, Try.ntmps32
    go_wp2
    refine bodyPost_ret (results_row_tmp rfl _ _ _ _ _ _ _ rfl (heap_alloc_new w _) Try.underlying23 rfl (by kernel_rfl)) rfl ?_
    rw [HV.out]
    exact ⟨rfl, below_alloc (Below.refl _ _) _⟩
end Go.Proofs.Ytbogfjadmiodkaa.Hand
