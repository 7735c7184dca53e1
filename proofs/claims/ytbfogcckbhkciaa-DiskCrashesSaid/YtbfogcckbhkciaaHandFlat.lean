/- Rows of structs whose fields are single cells: what they hold, read and written cell by cell. -/
import Derived.Test.YtbfogcckbhkciaaHandSet
namespace Go.Proofs.Ytbfogcckbhkciaa.Hand
open Go.RowKit Go.Proofs.YtbfogcckbhkciaaW.PrintWords

/-- A kind of so many cells that hold no rows: the cells are reckoned from the element. -/
def flat {α : Type} (enc : α → List Value) (sz : Nat) (hl : ∀ x, (enc x).length = sz) (h1 : ∀ x, ∀ u ∈ enc x, u.oneCell' = true) : Kd α where
  sz := sz
  E := []
  K := fun _ x cs => cs = enc x
  M := fun _ _ _ x cs => cs = enc x
  K_len := by rintro w x cs rfl; exact hl x
  K_one := by rintro w x cs rfl; exact h1 x
  K_below := fun _ h => h
  K_of_M := fun h => h
  M_mono := fun _ h => h
  M_bound := fun h => h
  M_move := fun _ h => h
  M_lower := fun _ h => h
section
variable {α : Type} {enc : α → List Value} {sz : Nat} {hl : ∀ x, (enc x).length = sz} {h1 : ∀ x, ∀ u ∈ enc x, u.oneCell' = true}
theorem reps_of_flat (hl : ∀ x, (enc x).length = sz) (xs : List α) : Reps (fun x c => c = enc x) sz xs (xs.flatMap enc) := by
  induction xs with
  | nil => exact Reps.none _ _
  | cons x xs ih =>
    refine ⟨by simp only [List.flatMap_cons, List.length_append, List.length_cons, hl, ih.1]; rw [Nat.add_mul]; omega, fun j p hp => ?_⟩
    rw [List.flatMap_cons]
    cases j with
    | zero =>
      obtain rfl : x = p := by simpa using hp
      rw [Nat.zero_mul, List.drop_zero, ← hl x, List.take_left']
      rfl
    | succ j =>
      have h3 : ((xs.flatMap enc).drop (j * sz)).take sz = enc p := ih.2 j p (by simpa using hp)
      show ((enc x ++ xs.flatMap enc).drop ((j + 1) * sz)).take sz = enc p
      rw [← h3, Nat.succ_mul, Nat.add_comm, ← List.drop_drop, List.drop_left' (hl x)]
theorem flat_of_reps {xs : List α} {cs : List Value} (h : Reps (fun x c => c = enc x) sz xs cs) : cs = xs.flatMap enc := by
  induction xs generalizing cs with
  | nil => exact List.eq_nil_of_length_eq_zero (by simpa using h.1)
  | cons x xs ih =>
    have h0 := h.2 0 x rfl
    rw [Nat.zero_mul, List.drop_zero] at h0
    have h2 : Reps (fun x c => c = enc x) sz xs (cs.drop sz) := by
      refine ⟨by rw [List.length_drop, h.1, List.length_cons, Nat.succ_mul]; omega, fun j p hp => ?_⟩
      have h3 : (cs.drop ((j + 1) * sz)).take sz = enc p := h.2 (j + 1) p (by simpa using hp)
      show (((cs.drop sz).drop (j * sz)).take sz) = enc p
      rw [← h3, List.drop_drop, Nat.succ_mul, Nat.add_comm]
    rw [List.flatMap_cons, ← ih h2, ← h0, List.take_append_drop]
theorem flat_get (hl : ∀ x, (enc x).length = sz) {xs : List α} {j i : Nat} {x : α} (hx : xs[j]? = some x) (hi : i < sz) : (xs.flatMap enc)[j * sz + i]? = (enc x)[i]? := by
  have h : ((xs.flatMap enc).drop (j * sz)).take sz = enc x := (reps_of_flat hl xs).2 j x hx
  rw [← h, List.getElem?_take_of_lt hi, List.getElem?_drop]
theorem R_flat {e : Nat} {w : World} {base : Nat} {ok : Nat → Prop} {v : Value} {xs : List α} :
    (flat enc sz hl h1).R e w base ok v xs ↔ (∀ k, v.ownBlock = some k → ok k) ∧ w.ownsRow base e sz v xs.length (xs.flatMap enc) := by
  constructor
  · rintro ⟨h0, inner, ho, hr⟩
    have := flat_of_reps hr
    subst this
    exact ⟨h0, ho⟩
  · rintro ⟨h0, ho⟩
    exact ⟨h0, _, ho, reps_of_flat hl xs⟩
theorem flat_slice {e : Nat} {w : World} {base : Nat} {ok : Nat → Prop} {v : Value} {xs : List α} (h : (flat enc sz hl h1).R e w base ok v xs) :
    (v = .slice none 0 0 ∧ xs = []) ∨ ∃ g cap, v = .slice (some ⟨g, 0, none⟩) xs.length cap ∧ base ≤ g ∧ ok g ∧ xs.length ≤ cap ∧ cap ≤ 9223372036854775807 := by
  obtain ⟨h0, ho⟩ := R_flat.1 h
  rcases ho.2 with ⟨rfl, hn⟩ | ⟨g, cap, cur, rfl, hb, hg, hn, hm, _⟩
  · exact .inl ⟨rfl, List.eq_nil_of_length_eq_zero hn⟩
  · exact .inr ⟨g, cap, rfl, hb, h0 g rfl, hn, by simpa [maxLen] using hm⟩
/-- A cell of an own row. -/
theorem flat_cell {e g n cap : Nat} {w : World} {base : Nat} {ok : Nat → Prop} {xs : List α} (h : (flat enc sz hl h1).R e w base ok (.slice (some ⟨g, 0, none⟩) n cap) xs) {j i : Nat} {x : α} (hx : xs[j]? = some x) (hi : i < sz) :
    w.cell? ⟨g, j * sz + i, none⟩ = (enc x)[i]? ∧ w.frozen? ⟨g, j * sz + i, none⟩ = false := by
  obtain ⟨h0, ho⟩ := R_flat.1 h
  have hj : j < xs.length := (List.getElem?_eq_some_iff.1 hx).1
  have hlt : j * sz + i < xs.length * sz := by
    have : (j + 1) * sz ≤ xs.length * sz := Nat.mul_le_mul_right _ hj
    rw [Nat.succ_mul] at this
    omega
  rcases ho.2 with ⟨hv, hn⟩ | ⟨g', cap', cur, hv, hb, hg, hn, hm, hsz, ht⟩
  · omega
  · have hgg : g = g' := by
      injection hv with hv _ _
      injection hv with hv
      injection hv
    subst hgg
    refine ⟨?_, ?_⟩
    · rw [← flat_get hl hx hi, ← ht, List.getElem?_take_of_lt hlt]
      simp only [World.cell?, hg]
      simp
    · simp only [World.frozen?, hg]
      simp
/-- A cell of an own row is written. -/
theorem flat_set {e g n cap : Nat} {w : World} {base : Nat} {ok : Nat → Prop} {xs : List α} (h : (flat enc sz hl h1).R e w base ok (.slice (some ⟨g, 0, none⟩) n cap) xs) {j i : Nat} {x x' : α} {u : Value} (hx : xs[j]? = some x) (hi : i < sz)
    (he : enc x' = (enc x).set i u) : (flat enc sz hl h1).R e (w.setCell ⟨g, j * sz + i, none⟩ u) base ok (.slice (some ⟨g, 0, none⟩) n cap) (xs.set j x') := by
  obtain ⟨h0, ho⟩ := R_flat.1 h
  have hj : j < xs.length := (List.getElem?_eq_some_iff.1 hx).1
  refine R_flat.2 ⟨h0, ?_⟩
  have hlt : j * sz + i < xs.length * sz := by
    have : (j + 1) * sz ≤ xs.length * sz := Nat.mul_le_mul_right _ hj
    rw [Nat.succ_mul] at this
    omega
  have hf : (xs.set j x').flatMap enc = (xs.flatMap enc).set (j * sz + i) u := by
    have h2 : Reps (fun x c => c = enc x) sz (xs.set j x') ((xs.flatMap enc).set (j * sz + i) u) := by
      have h3 := reps_of_flat hl xs
      refine ⟨by rw [List.length_set, List.length_set, h3.1], fun k p hp => ?_⟩
      apply List.ext_getElem?
      intro q
      by_cases hq : q < sz
      · rw [List.getElem?_take_of_lt hq, List.getElem?_drop]
        by_cases hk : k = j
        · subst hk
          rw [List.getElem?_set_self hj] at hp
          injection hp with hp
          subst hp
          rw [he]
          by_cases hqi : q = i
          · subst hqi
            rw [List.getElem?_set_self (by rw [h3.1]; exact hlt), List.getElem?_set_self (by rw [hl]; exact hq)]
          · rw [List.getElem?_set_ne (by omega), List.getElem?_set_ne (by omega), flat_get hl hx hq]
        · rw [List.getElem?_set_ne (fun e => hk e.symm)] at hp
          rw [List.getElem?_set_ne, flat_get hl hp hq]
          intro e
          rcases Nat.lt_or_gt_of_ne hk with hk | hk
          · have : (k + 1) * sz ≤ j * sz := Nat.mul_le_mul_right _ hk
            rw [Nat.succ_mul] at this
            omega
          · have : (j + 1) * sz ≤ k * sz := Nat.mul_le_mul_right _ hk
            rw [Nat.succ_mul] at this
            omega
      · rw [List.getElem?_eq_none (by rw [List.length_take]; omega), List.getElem?_eq_none (by rw [hl]; omega)]
    exact (flat_of_reps h2).symm
  rw [List.length_set, hf]
  refine ⟨by rw [List.length_set]; exact ho.1, ?_⟩
  rcases ho.2 with ⟨hv, hn⟩ | ⟨g', cap', cur, hv, hb, hg, hn, hm, hsz, ht⟩
  · exact .inl ⟨hv, hn⟩
  · have hgg : g = g' := by
      injection hv with hv _ _
      injection hv with hv
      injection hv
    subst hgg
    refine .inr ⟨g, cap', cur.setIfInBounds (j * sz + i) u, hv, hb, ?_, hn, hm, by simpa using hsz, ?_⟩
    · simp [World.setCell, Array.getElem?_modify, hg]
    · rw [Array.toList_setIfInBounds, ← ht, List.take_set]
/-- What an own row reads, at an index. -/
theorem flat_reads {e : Nat} {w : World} {base : Nat} {ok : Nat → Prop} {v : Value} {xs : List α} (h : (flat enc sz hl h1).R e w base ok v xs) :
    ∃ A c, v = .slice A xs.length c ∧ xs.length ≤ c ∧ (flat enc sz hl h1).C w A xs.length xs := Kd.R_reads h
theorem C_flat {w : World} {A : Option Addr} {n : Nat} {xs : List α} (h : (flat enc sz hl h1).C w A n xs) {j : Nat} {x : α} (hx : xs[j]? = some x) :
    ∃ ad, A = some ad ∧ ∀ i, i < sz → w.cell? (ad.add (j * sz + i)) = (enc x)[i]? := by
  have hj : j < xs.length := (List.getElem?_eq_some_iff.1 hx).1
  obtain ⟨ad, hA, hc⟩ := h.2.2 (by have := h.1; omega)
  obtain ⟨c, hs, rfl, hcell⟩ := hc j x hx
  refine ⟨ad, hA, fun i hi => ?_⟩
  have hh : (enc x)[i]? = some ((enc x)[i]'(by rw [hl]; exact hi)) := List.getElem?_eq_getElem _
  rw [hh]
  exact hcell i _ hh
theorem made_flat (hl : ∀ x, (enc x).length = sz) (z0 : α) (zc : Array Value) (hz : enc z0 = zc.toList) (n : Nat) : (madeCells zc (n * sz)).toList = (List.replicate n z0).flatMap enc := by
  have hzs : zc.size = sz := by rw [← Array.length_toList, ← hz, hl]
  refine flat_of_reps (sz := sz) ⟨by rw [Array.length_toList, size_madeCells, List.length_replicate], fun j p hp => ?_⟩
  have hj : j < n := by
    have := (List.getElem?_eq_some_iff.1 hp).1
    simpa using this
  have hpz : p = z0 := by
    have := List.getElem?_eq_some_iff.1 hp
    obtain ⟨_, h⟩ := this
    simpa using h.symm
  subst hpz
  have hlt : (j + 1) * sz ≤ n * sz := Nat.mul_le_mul_right _ hj
  rw [Nat.succ_mul] at hlt
  apply List.ext_getElem?
  intro i
  by_cases hi : i < sz
  · rw [List.getElem?_take_of_lt hi, List.getElem?_drop, hz, Array.getElem?_toList, Array.getElem?_toList]
    have h1 : (j * sz + i) % sz = i := by rw [Nat.mul_comm, Nat.mul_add_mod, Nat.mod_eq_of_lt hi]
    have h2 : j * sz + i < n * sz := by omega
    simp only [madeCells, Array.getElem?_map, Array.getElem?_range, h2, if_true, Option.map_some]
    rw [hzs, h1, getElem!_pos zc i (by omega), Array.getElem?_eq_getElem (by omega)]
  · rw [List.getElem?_eq_none (by rw [List.length_take]; omega), List.getElem?_eq_none (by rw [hl]; omega)]
theorem make_flat {P : Program} (t e : TypeId) (z0 : α) (z : Value) (bytes : Nat) (ht : P.underlying t = some (.slice e)) (hinfo : (P.info? e).map (fun i => (i.zero, i.size, i.bytes)) = some (some z, sz, bytes)) (hz : enc z0 = z.cells.toList) (n : Nat) (hn : n * bytes ≤ 281474976710656) (h63 : n ≤ 9223372036854775807) (W : World) :
    (Instr.makeSlice t (.int .i64 (n : Int)) (.int .i64 (n : Int))).run P W = .ok (.slice (some ⟨W.heap.size, 0, none⟩) n n) (W.alloc (.cells (madeCells z.cells (n * sz)) e)) ∧
    (flat enc sz hl h1).R e (W.alloc (.cells (madeCells z.cells (n * sz)) e)) 0 (fun k => k = W.heap.size) (.slice (some ⟨W.heap.size, 0, none⟩) n n) (List.replicate n z0) := by
  obtain ⟨i0, hi, hzz⟩ := Option.map_eq_some_iff.1 hinfo
  simp only [Prod.mk.injEq] at hzz
  obtain ⟨hz0, hz1, hz2⟩ := hzz
  refine ⟨?_, R_flat.2 ⟨fun k hk => by simpa [Value.ownBlock] using hk.symm, ?_⟩⟩
  · have hr := run_make (P := P) W t e i0 z ht hi hz0 .i64 .i64 n n (by omega) (Int.le_refl _) (by
      have h : ((i0.bytes * n : Nat) : Int) ≤ 281474976710656 := by rw [hz2, Nat.mul_comm]; omega
      rwa [Int.natCast_mul] at h) (by omega)
    simp only [Int.toNat_natCast, hz1] at hr
    exact hr
  · rw [← made_flat hl z0 z.cells hz n, List.length_replicate]
    have h := World.ownsRow_lit (base := 0) (e := e) (size := sz) W (madeCells z.cells (n * sz)) n (Nat.zero_le _) (by simpa [maxLen] using h63) (by rw [size_madeCells])
    simpa using h
end
end Go.Proofs.Ytbfogcckbhkciaa.Hand
