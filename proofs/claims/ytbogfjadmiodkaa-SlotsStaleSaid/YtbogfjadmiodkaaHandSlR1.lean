/- The document's answer for layer 11: New, Used, Good, with. -/
import Derived.Test.YtbogfjadmiodkaaHandSl3
namespace Go.Proofs.Ytbogfjadmiodkaa.Hand
open Go.RowKit Go.Proofs.YtbogfjadmiodkaaW.PrintWords

/-- The document's slots, read. -/
def RdS (w : World) (A : Option Addr) (L : List Sl) : Prop := SlK.C w A L.length L
theorem RdS.below {w w1 : World} {A : Option Addr} {L : List Sl} (h : RdS w A L) (hb : Below w.heap.size w w1) : RdS w1 A L := Kd.C_below h hb
theorem RdS.cells {w : World} {A : Option Addr} {L : List Sl} (h : RdS w A L) {k : Nat} {x : Sl} (hx : L[k]? = some x) :
    ∃ g o, A = some ⟨g, o, none⟩ ∧ w.cell? ⟨g, o + k * 3, none⟩ = some (.int .i64 x.1) ∧ w.cell? ⟨g, o + k * 3 + 1, none⟩ = some (.bool x.2.1) ∧ w.cell? ⟨g, o + k * 3 + 2, none⟩ = some (.int .u64 x.2.2) := by
  obtain ⟨g, o, hA, hc⟩ := C_at h (by decide) hx
  exact ⟨g, o, hA, hc 0 (by decide), hc 1 (by decide), hc 2 (by decide)⟩
theorem RdS.len {w : World} {A : Option Addr} {L : List Sl} (h : RdS w A L) : L.length ≤ 9223372036854775807 := h.2.1
theorem rUsed_calls (w : World) (A : Option Addr) (c : Nat) (L : List Sl) (h : RdS w A L) (hl : L.length ≤ 65536) :
    Calls Try.prog 33 #[.slice A L.length c] w fun e w' => e = .returned (.int .i64 ((L.countP (·.2.1) : Nat) : Int)) ∧ w = w' := by
  have HH := Aside0.mk h
  clear h
  go_enter Try.func33, Try.ntmps33
  go_wp2
  go_loop [3, 4] (fun n i => ∃ j q : Nat, j ≤ L.length ∧ i = .int .i64 j ∧ n = .int .i64 q ∧ q ≤ j ∧ Aside0 (q = (L.take j).countP (·.2.1))) (fun _ i => (L.length - intOf i).toNat)
  case atStart => exact ⟨0, 0, Nat.zero_le _, rfl, rfl, Nat.le_refl _, ⟨rfl⟩⟩
  case round =>
    obtain ⟨j, q, hj, rfl, rfl, hqj, HQ⟩ := hrel
    by_cases hjl : j < L.length
    · obtain ⟨y, hy⟩ : ∃ y, L[j]? = some y := ⟨_, List.getElem?_eq_getElem hjl⟩
      obtain ⟨g, o, rfl, c0, c1, c2⟩ := HH.out.cells hy
      have HT := Aside0.mk (show (L.take (j + 1)).countP (·.2.1) = (L.take j).countP (·.2.1) + if y.2.1 then 1 else 0 by
        rw [List.take_add_one, hy, List.countP_append]
        simp [List.countP_cons])
      clear hy
      cases hyu : y.2.1 with
      | true =>
        rw [hyu] at c1 HT
        go_wp2
        go_round
        case rel => exact ⟨j + 1, q + 1, by omega, by go_num, by go_num, by omega, ⟨by rw [HT.out, HQ.out]; rfl⟩⟩
        case measure => (simp [intOf]) <;> omega
      | false =>
        rw [hyu] at c1 HT
        go_wp2
        go_round
        case rel => exact ⟨j + 1, q, by omega, by go_num, rfl, by omega, ⟨by rw [HT.out, HQ.out]; rfl⟩⟩
        case measure => (simp [intOf]) <;> omega
    · obtain rfl : j = L.length := by omega
      go_wp2
      go_ret
      rw [HQ.out, List.take_of_length_le (Nat.le_refl _)]
      exact ⟨rfl, rfl⟩
theorem rGood_calls (w : World) (A : Option Addr) (c : Nat) (L : List Sl) (a b : Int) (h : RdS w A L) :
    Calls Try.prog 31 #[.slice A L.length c, .agg #[.int .i64 a, .int .i64 b]] w fun e w' => e = .returned (.bool (goodM L (a, b))) ∧ Below w.heap.size w w' := by
  by_cases ha : 0 ≤ a
  · obtain ⟨k, rfl⟩ := Int.eq_ofNat_of_zero_le ha
    by_cases hk : k < L.length
    · obtain ⟨x, hx⟩ : ∃ x, L[k]? = some x := ⟨_, List.getElem?_eq_getElem hk⟩
      obtain ⟨g, o, rfl, c0, c1, c2⟩ := h.cells hx
      have a0 := cell_alloc c0
      have a1 := cell_alloc c1
      have HG := Aside0.mk (show goodM L (k, b) = (x.2.1 && (x.1 == b)) by
        rw [goodM, atM, if_pos (by omega), Int.toNat_natCast, hx]
        obtain ⟨x1, x2, x3⟩ := x
        cases x2 <;> rfl)
      clear h hx
      cases hu : x.2.1 with
      | true =>
        rw [hu] at a1 HG
        go_enter Try.func31, Try.ntmps31
        go_wp2
        go_quiet (fail)
        go_wp2
        go_ret
        rw [HG.out]
        exact ⟨rfl, pw_below_drewN (below_alloc (Below.refl _ _) _) _⟩
      | false =>
        rw [hu] at a1 HG
        go_enter Try.func31, Try.ntmps31
        go_wp2
        go_quiet (fail)
        go_wp2
        go_ret
        rw [HG.out]
        exact ⟨rfl, pw_below_drewN (below_alloc (Below.refl _ _) _) _⟩
    · have HG := Aside0.mk (show goodM L (k, b) = false by rw [goodM, atM, if_pos (by omega), Int.toNat_natCast, List.getElem?_eq_none (by omega)])
      go_enter Try.func31, Try.ntmps31
      go_wp2
      go_quiet (fail)
      go_wp2
      go_ret
      rw [HG.out]
      exact ⟨rfl, pw_below_drewN (below_alloc (Below.refl _ _) _) _⟩
  · have HG := Aside0.mk (show goodM L (a, b) = false by rw [goodM, atM, if_neg (by simpa using ha)])
    have hd : decide (0 ≤ a) = false := decide_eq_false ha
    go_enter Try.func31, Try.ntmps31
    go_wp2
    go_quiet (fail)
    go_wp2
    go_ret
    rw [HG.out]
    exact ⟨rfl, pw_below_drewN (below_alloc (Below.refl _ _) _) _⟩
theorem R_cells {e g n cap base : Nat} {w : World} {ok : Nat → Prop} {L : List Sl} (h : SlK.R e w base ok (.slice (some ⟨g, 0, none⟩) n cap) L) {k : Nat} {x : Sl} (hx : L[k]? = some x) :
    (w.cell? ⟨g, k * 3, none⟩ = some (.int .i64 x.1) ∧ w.cell? ⟨g, k * 3 + 1, none⟩ = some (.bool x.2.1) ∧ w.cell? ⟨g, k * 3 + 2, none⟩ = some (.int .u64 x.2.2)) ∧
    (w.frozen? ⟨g, k * 3, none⟩ = false ∧ w.frozen? ⟨g, k * 3 + 1, none⟩ = false ∧ w.frozen? ⟨g, k * 3 + 2, none⟩ = false) := by
  have h0 := flat_cell h hx (i := 0) (by decide)
  have h1 := flat_cell h hx (i := 1) (by decide)
  have h2 := flat_cell h hx (i := 2) (by decide)
  exact ⟨⟨h0.1, h1.1, h2.1⟩, h0.2, h1.2, h2.2⟩
theorem R_putSl {e g n cap base : Nat} {w : World} {ok : Nat → Prop} {L : List Sl} (h : SlK.R e w base ok (.slice (some ⟨g, 0, none⟩) n cap) L) {k : Nat} {x : Sl} (hx : L[k]? = some x) (y : Sl) : SlK.R e (putSl w g k y) base ok (.slice (some ⟨g, 0, none⟩) n cap) (L.set k y) := by
  have hl := (List.getElem?_eq_some_iff.1 hx).1
  have h1 := flat_set h hx (i := 0) (x' := (y.1, x.2.1, x.2.2)) (u := .int .i64 y.1) (by decide) rfl
  have h2 := flat_set h1 (List.getElem?_set_self hl) (i := 1) (x' := (y.1, y.2.1, x.2.2)) (u := .bool y.2.1) (by decide) rfl
  rw [List.set_set] at h2
  have h3 := flat_set h2 (List.getElem?_set_self hl) (i := 2) (x' := (y.1, y.2.1, y.2.2)) (u := .int .u64 y.2.2) (by decide) rfl
  rw [List.set_set] at h3
  exact h3
theorem info_rsl : (Try.prog.info? 57).map (fun i => (i.zero, i.size, i.bytes)) = some (some (.agg #[.int .i64 0, .bool false, .int .u64 0]), 3, 24) := by kernel_rfl
theorem with_calls (w : World) (A : Option Addr) (c : Nat) (L : List Sl) (k : Nat) (y : Sl) (h : RdS w A L) (hk : k < L.length) (hl : L.length ≤ 65536) :
    Calls Try.prog 50 #[.slice A L.length c, .int .i64 k, .agg #[.int .i64 y.1, .bool y.2.1, .int .u64 y.2.2]] w fun e w' => ∃ u, e = .returned u ∧ SlK.R 57 w' 0 (New w) u (L.set k y) ∧ Below w.heap.size w w' := by
  have HH := Aside0.mk h
  clear h
  go_enter Try.func50, Try.ntmps50
  go_wp2_with ((with_reducible refine gate_bi (b := .append) (xs := #[.tmp 8, .tmp 9]) rfl ?_); at_builtin; refine Kd.R_append_rows SlK (w0 := w) w.heap.size rfl (.tmp 8) (.tmp 9) 39 57 (.agg #[.int .i64 0, .bool false, .int .u64 0]) 24 rfl Try.underlying39 info_rsl rfl (by decide) (by decide) (.slice (some ⟨w.heap.size + 1, 0, none⟩) 0 0) [] L A L.length c (fun _ => True) (fun _ => False) rfl rfl ?c1 ?c2 (fun _ _ h => h) (fun _ h => h.elim) (fun _ _ => trivial) ?c3 ?c4 ?c5 ?_)
  case c1 => exact R_flat.2 ⟨fun _ _ => trivial, by have h := World.ownsRow_made (e := 57) (size := 3) (w.alloc (Obj.cells #[Value.int IntKind.i64 y.1, Value.bool y.2.1, Value.int IntKind.u64 y.2.2] 57)) #[] 0 (show w.heap.size ≤ _ by simp) (Nat.zero_le _) (rfl : (#[] : Array Value).size = 0 * 3); simpa using h⟩
  case c2 => exact HH.out.below (below_alloc (below_alloc (Below.refl _ _) _) _)
  case c3 => exact below_alloc (below_alloc (Below.refl _ _) _) _
  case c4 => simp; omega
  case c5 => simp; omega
  intro v1 w1 ho hb hg hat
  have HO : Aside0 (SlK.R 57 w1 0 (New w) v1 L) := ⟨own_new ho (Nat.le_refl _)⟩
  have HB := Aside0.mk hb
  have hbox : w1.heap[w.heap.size]? = some (Obj.cells #[Value.int IntKind.i64 y.1, Value.bool y.2.1, Value.int IntKind.u64 y.2.2] 57) := (hg.block w.heap.size (by simp; omega) (by simp [Value.ownBlock])).trans (old_blk (heap_alloc_new w _) _)
  have b0 := blk_cell hbox (i := 0) rfl
  have b1 := blk_cell hbox (i := 1) rfl
  have b2 := blk_cell hbox (i := 2) rfl
  rcases flat_slice HO.out with ⟨_, rfl⟩ | ⟨g, cap, rfl, _, hgn, hcap, hcap2⟩
  · simp at hk
  have hgne : w.heap.size ≠ g := by
    rcases hat with e | ⟨b, e, hb⟩
    · have : g = w.heap.size + 1 := by simpa [Value.ownBlock] using e
      omega
    · have : g = b := by simpa [Value.ownBlock] using e
      omega
  obtain ⟨x, hx⟩ : ∃ x, L[k]? = some x := ⟨_, List.getElem?_eq_getElem hk⟩
  obtain ⟨⟨c0, c1, c2⟩, f0, f1, f2⟩ := R_cells HO.out hx
  have HX := Aside0.mk hx
  have HGN := Aside0.mk hgn
  clear ho hb hg hat hx hbox hgn
  go_wp2
  go_ret
  exact ⟨_, rfl, R_putSl HO.out HX.out y, HB.out.trans ((fr_putSl w1 g k y).below w.heap.size HB.out.size (fun b hb => by rw [hb]; exact HGN.out))⟩
end Go.Proofs.Ytbogfjadmiodkaa.Hand
