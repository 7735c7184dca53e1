/- slices.Contains at ints; words set one by one; Crash. -/
import Derived.Test.YtbfogcckbhkciaaHandPm4
import Derived.StillTailTactics
namespace Go.Proofs.Ytbfogcckbhkciaa.Hand
open Go.RowKit Go.Maps Go.Proofs.YtbfogcckbhkciaaW.PrintWords
set_option linter.unusedVariables false

/-- The first place of a number in a row; -1: none. -/
def idxM (l : List Int) (k : Int) : Int := match l.findIdx? (· == k) with | some i => (i : Int) | none => -1
theorem idxM_neg {l : List Int} {k : Int} : decide (0 ≤ idxM l k) = decide (k ∈ l) := by
  refine decide_eq_decide.2 ?_
  unfold idxM
  cases h : l.findIdx? (· == k) with
  | some i =>
    obtain ⟨h1, h2, _⟩ := List.findIdx?_eq_some_iff_getElem.1 h
    have h3 : l[i] = k := by simpa using h2
    exact ⟨fun _ => by rw [← h3]; exact List.getElem_mem _, fun _ => by simp⟩
  | none =>
    have := List.findIdx?_eq_none_iff.1 h
    exact ⟨fun h => absurd h (by simp), fun hk => absurd (this k hk) (by simp)⟩
theorem idx_calls (w : World) (A : Option Addr) (c : Nat) (l : List Int) (k : Int) (hr : ReadsInt w .i64 A l.length l) :
    Calls Try.prog 113 #[.slice A l.length c, .int .i64 k] w fun e w' => e = .returned (.int .i64 (idxM l k)) ∧ Below w.heap.size w w' := by
  have HR := Aside0.mk hr
  have hl := hr.2.1
  clear hr
  go_enter Try.func113, Try.ntmps113
  go_wp2
  go_loop [8] (fun i => ∃ j : Nat, j ≤ l.length ∧ i = .int .i64 j ∧ Aside0 (∀ m (hm : m < l.length), m < j → l[m] ≠ k)) (fun i => (l.length - intOf i).toNat)
  case atStart => exact ⟨0, Nat.zero_le _, rfl, ⟨fun m _ h => absurd h (Nat.not_lt_zero _)⟩⟩
  case round =>
    obtain ⟨j, hj, rfl, HN⟩ := hrel
    by_cases hlt : j < l.length
    · obtain ⟨ad, rfl, hx⟩ := HR.out.2.2 (by omega)
      have x0 := hx j hlt
      have HRD := Aside0.mk (show l.getD j 0 = l[j] by rw [List.getD_eq_getElem?_getD, List.getElem?_eq_getElem hlt]; rfl)
      clear hx
      generalize l.getD j 0 = y at x0 HRD
      by_cases he : k = y
      · have he1 : (k == y) = true := by simp [he]
        have HI := Aside0.mk (show idxM l k = j by
          have : l.findIdx? (· == k) = some j := List.findIdx?_eq_some_iff_getElem.2 ⟨hlt, by rw [← HRD.out, he]; simp, fun m hm => by simpa using HN.out m (by omega) hm⟩
          rw [idxM, this])
        clear he
        go_wp2
        go_ret
        rw [HI.out]
        exact ⟨rfl, Below.refl _ _⟩
      · have he1 : (k == y) = false := by simp [he]
        have HN1 := Aside0.mk (show ∀ m (hm : m < l.length), m < j + 1 → l[m] ≠ k from fun m hm h1 => by
          by_cases h2 : m = j
          · subst h2; rw [← HRD.out]; exact fun e => he e.symm
          · exact HN.out m hm (by omega))
        clear he
        go_wp2
        go_round
        case rel => exact ⟨j + 1, by omega, by go_num, HN1⟩
        case measure => simp [intOf]; omega
    · obtain rfl : j = l.length := by omega
      have HI := Aside0.mk (show idxM l k = -1 by
        have : l.findIdx? (· == k) = none := List.findIdx?_eq_none_iff.2 (fun x hx => by
          obtain ⟨m, hm, rfl⟩ := List.getElem_of_mem hx
          simpa using HN.out m hm hm)
        rw [idxM, this])
      go_wp2
      go_ret
      rw [HI.out]
      exact ⟨rfl, Below.refl _ _⟩
theorem contains_calls (w : World) (A : Option Addr) (c : Nat) (l : List Int) (k : Int) (hr : ReadsInt w .i64 A l.length l) :
    Calls Try.prog 73 #[.slice A l.length c, .int .i64 k] w fun e w' => e = .returned (.bool (decide (k ∈ l))) ∧ Below w.heap.size w w' := by
  have HR := Aside0.mk hr
  have HE := Aside0.mk (idxM_neg (l := l) (k := k))
  obtain ⟨x, hx⟩ : ∃ x, x = idxM l k := ⟨_, rfl⟩
  have HX := Aside0.mk hx.symm
  clear hr hx
  go_enter Try.func73, Try.ntmps73
  go_wp2_with (go_at_call 113; (with_reducible refine (idx_calls _ A c l k HR.out).mono ?_); rw [HX.out]; rintro e w2 ⟨rfl, hb2⟩)
  go_ret
  rw [← HE.out, HX.out]
  exact ⟨rfl, hb2⟩
/-- 'lost' of Crash. -/
theorem lost_calls (w : World) (q : Nat) (A : Option Addr) (c : Nat) (l : List Int) (k : Int) (hq : w.cell? ⟨q, 0, none⟩ = some (.slice A l.length c)) (hr : ReadsInt w .i64 A l.length l) :
    Calls Try.prog 72 #[.int .i64 k, .pointer (some ⟨q, 0, none⟩)] w fun e w' => e = .returned (.bool (!decide (k ∈ l))) ∧ Below w.heap.size w w' := by
  have HR := Aside0.mk hr
  obtain ⟨x, hx⟩ : ∃ x, x = decide (k ∈ l) := ⟨_, rfl⟩
  have HX := Aside0.mk hx.symm
  clear hr hx
  go_enter Try.func72, Try.ntmps72
  go_wp2_with (go_at_call 73; (with_reducible refine (contains_calls _ A c l k HR.out).mono ?_); rw [HX.out]; rintro e w2 ⟨rfl, hb2⟩)
  go_ret
  rw [HX.out]
  exact ⟨rfl, hb2⟩
/-- So many words, one behind the other. -/
def mapW (g : Nat → List Int) : Nat → Nat → List Int
  | _, 0 => []
  | a, m + 1 => g a ++ mapW g (a + 1) m
theorem mapW_length {g : Nat → List Int} {a m : Nat} (h : ∀ j, a ≤ j → j < a + m → (g j).length = 8) : (mapW g a m).length = 8 * m := by
  induction m generalizing a with
  | zero => rfl
  | succ m ih =>
    rw [mapW, List.length_append, h a (Nat.le_refl _) (by omega), ih (fun j h1 h2 => h j (by omega) (by omega))]
    omega
theorem mapW_add (g : Nat → List Int) (a m n : Nat) : mapW g a (m + n) = mapW g a m ++ mapW g (a + m) n := by
  induction m generalizing a with
  | zero => simp [mapW]
  | succ m ih => rw [Nat.succ_add, mapW, mapW, ih, List.append_assoc, show a + 1 + m = a + (m + 1) by omega]
theorem mapW_congr {g g' : Nat → List Int} {a m : Nat} (h : ∀ j, a ≤ j → j < a + m → g j = g' j) : mapW g a m = mapW g' a m := by
  induction m generalizing a with
  | zero => rfl
  | succ m ih => rw [mapW, mapW, h a (Nat.le_refl _) (by omega), ih (fun j h1 h2 => h j (by omega) (by omega))]
theorem mapW_word {B : List Int} {a m : Nat} (h : 8 * (a + m) ≤ B.length) : mapW (word B) a m = cut B (8 * a) (8 * m) := by
  induction m generalizing a with
  | zero => simp [mapW, cut]
  | succ m ih =>
    rw [mapW, ih (by omega), word, cut, cut, cut, show 8 * (m + 1) = 8 + 8 * m by omega, List.take_add, List.drop_drop, show 8 * (a + 1) = 8 * a + 8 by omega]
theorem mapW_self {B : List Int} (h : B.length % 8 = 0) : mapW (word B) 0 (B.length / 8) = B := by
  rw [mapW_word (by omega), cut, Nat.mul_zero, List.drop_zero, List.take_of_length_le (by omega)]
theorem mapW_split (g : Nat → List Int) {n k : Nat} (hk : k < n) : mapW g 0 n = mapW g 0 k ++ (g k ++ mapW g (k + 1) (n - k - 1)) := by
  conv => lhs; rw [show n = k + (1 + (n - k - 1)) by omega, mapW_add, mapW_add]
  simp [mapW]
theorem mapW_splice {g : Nat → List Int} {n k : Nat} (h : ∀ j, j < n → (g j).length = 8) (hk : k < n) (c : List Int) (hc : c.length = 8) :
    (mapW g 0 n).take (8 * k) ++ (c ++ (mapW g 0 n).drop (8 * k + 8)) = mapW (fun j => if j = k then c else g j) 0 n := by
  have hl : (mapW g 0 k).length = 8 * k := mapW_length (fun j _ h2 => h j (by omega))
  rw [mapW_split g hk, mapW_split (fun j => if j = k then c else g j) hk, if_pos rfl, List.take_left' hl, ← List.drop_drop, List.drop_left' hl, List.drop_left' (h k hk)]
  congr 1
  · exact mapW_congr (fun j _ h2 => by rw [if_neg (by omega)])
  · congr 1
    exact mapW_congr (fun j h1 _ => by rw [if_neg (by omega)])
theorem mapW_bys {g : Nat → List Int} (h : ∀ j, Bys (g j)) (a m : Nat) : Bys (mapW g a m) := by
  induction m generalizing a with
  | zero => intro x hx; cases hx
  | succ m ih =>
    intro x hx
    rcases List.mem_append.1 hx with hx | hx
    · exact h a x hx
    · exact ih _ x hx
theorem word_mapW {g : Nat → List Int} {n k : Nat} (h : ∀ j, j < n → (g j).length = 8) (hk : k < n) : word (mapW g 0 n) k = g k := by
  have hl : (mapW g 0 k).length = 8 * k := mapW_length (fun j _ h2 => h j (by omega))
  rw [word, cut, mapW_split g hk, List.drop_left' hl, List.take_left' (h k hk)]
/-- A word behind a crash. -/
def Dev.lossW (d : Dev) (keep : List Int) (j : Nat) : List Int := match d.S j with | some c => if (j : Int) ∈ keep then word d.B j else c | none => word d.B j
def Dev.crash (d : Dev) (keep : List Int) : Dev := { B := mapW (d.lossW keep) 0 (d.B.length / 8), S := fun _ => none, F := fun _ => false }
theorem Dev.Ok.lossW {d : Dev} (h : d.Ok) (keep : List Int) {j : Nat} (hj : j < d.B.length / 8) : (d.lossW keep j).length = 8 := by
  unfold Dev.lossW
  split
  · rename_i c hc
    split
    · exact word_length (by omega)
    · exact (h.safe j c hc).1
  · exact word_length (by omega)
theorem Dev.Ok.lossW_bys {d : Dev} (h : d.Ok) (keep : List Int) (j : Nat) : Bys (d.lossW keep j) := by
  unfold Dev.lossW
  split
  · rename_i c hc
    split
    · exact word_bys h.bys j
    · exact (h.safe j c hc).2
  · exact word_bys h.bys j
/-- A word where so many keys are still to come. -/
def leftW (d : Dev) (keep : List Int) (left : Lit → Bool) (j : Nat) : List Int := if left (.int .i64 j) then word d.B j else d.lossW keep j
theorem leftW_length {d : Dev} (h : d.Ok) (keep : List Int) (left : Lit → Bool) {j : Nat} (hj : j < d.B.length / 8) : (leftW d keep left j).length = 8 := by
  unfold leftW
  split
  · exact word_length (by omega)
  · exact h.lossW keep hj
def leftB (d : Dev) (keep : List Int) (left : Lit → Bool) : List Int := mapW (leftW d keep left) 0 (d.B.length / 8)
theorem leftB_start {d : Dev} (h : d.Ok) (keep : List Int) {D : DataW Value} (hf : Fits D (safeF d.S)) : leftB d keep (has D) = d.B := by
  rw [leftB]
  conv => rhs; rw [← mapW_self h.len]
  refine mapW_congr (fun j _ _ => ?_)
  unfold leftW
  split
  · rfl
  · rename_i hn
    unfold Dev.lossW
    rw [(hf _).1, safeF_nat] at hn
    split
    · rename_i c hc
      rw [hc] at hn
      exact absurd rfl hn
    · rfl
theorem leftB_end {d : Dev} (keep : List Int) {left : Lit → Bool} (h : ∀ kl, left kl = false) : leftB d keep left = (d.crash keep).B := by
  rw [leftB, Dev.crash]
  exact mapW_congr (fun j _ _ => by rw [leftW, h]; rfl)
theorem leftB_length {d : Dev} (h : d.Ok) (keep : List Int) (left : Lit → Bool) : (leftB d keep left).length = d.B.length := by
  rw [leftB, mapW_length (fun j _ hj => leftW_length h keep left (by omega))]
  have := h.len
  omega
theorem sameKey_nat {j k : Nat} (h : j ≠ k) : (Lit.int .i64 j).sameKey (.int .i64 k) = false := sameKey_ne (fun e => h (by simp only [Lit.int.injEq, true_and] at e; omega))
theorem leftB_lost {d : Dev} (h : d.Ok) (keep : List Int) (left : Lit → Bool) {k : Nat} {c : List Int} (hc : d.S k = some c) (hk : (k : Int) ∉ keep) :
    (leftB d keep left).take (8 * k) ++ (c ++ (leftB d keep left).drop (8 * k + 8)) = leftB d keep (fun z => left z && !z.sameKey (.int .i64 k)) := by
  have hkn : k < d.B.length / 8 := by have := h.dom k (by rw [hc]; rfl); omega
  rw [leftB, mapW_splice (fun j hj => leftW_length h keep left hj) hkn c (h.safe k c hc).1, leftB]
  refine mapW_congr (fun j _ _ => ?_)
  by_cases hj : j = k
  · subst hj
    rw [if_pos rfl, leftW, sameKey_int]
    simp [Dev.lossW, hc, hk]
  · rw [if_neg hj, leftW, leftW, sameKey_nat hj]
    simp
theorem leftB_kept {d : Dev} (h : d.Ok) (keep : List Int) (left : Lit → Bool) {k : Nat} (hk : (k : Int) ∈ keep) : leftB d keep left = leftB d keep (fun z => left z && !z.sameKey (.int .i64 k)) := by
  refine mapW_congr (fun j _ _ => ?_)
  by_cases hj : j = k
  · subst hj
    rw [leftW, leftW, sameKey_int]
    have : d.lossW keep j = word d.B j := by
      unfold Dev.lossW
      split
      · rw [if_pos hk]
      · rfl
    simp [this]
  · rw [leftW, leftW, sameKey_nat hj]
    simp
theorem Dev.Ok.crash {d : Dev} (h : d.Ok) (keep : List Int) : (d.crash keep).Ok := by
  have hl : (d.crash keep).B.length = d.B.length := by
    rw [Dev.crash, mapW_length (fun j _ hj => h.lossW keep (by omega))]
    have := h.len
    omega
  exact ⟨by rw [hl]; exact h.len, by rw [hl]; exact h.max, mapW_bys (fun j => h.lossW_bys keep j) _ _, fun j hj => (by cases hj), fun j c hj => (by cases hj), fun j hj => (by cases hj)⟩
theorem crash_length {d : Dev} (h : d.Ok) (keep : List Int) : (d.crash keep).B.length = d.B.length := by
  rw [Dev.crash, mapW_length (fun j _ hj => h.lossW keep (by omega))]
  have := h.len
  omega
theorem reads_frA {q : IntKind} {S : Nat → Prop} {w w1 : World} {A : Option Addr} {n : Nat} {l : List Int} (hr : ReadsInt w q A n l) (hf : Fr S w w1) (hs : 0 < n → ∀ ad, A = some ad → ¬ S ad.block) : ReadsInt w1 q A n l :=
  ⟨hr.1, hr.2.1, fun h0 => by
    obtain ⟨ad, e, hx⟩ := hr.2.2 h0
    refine ⟨ad, e, fun j hj => hf.cell (hx j hj) ?_⟩
    have : (ad.add j).block = ad.block := by unfold Addr.add; split <;> rfl
    rw [this]
    exact hs h0 ad e⟩
theorem arr_reads {w : World} {b : Nat} {t : TypeId} {y0 y1 y2 y3 y4 y5 y6 y7 : Int} (h : w.heap[b]? = some (.cells #[.int .u8 y0, .int .u8 y1, .int .u8 y2, .int .u8 y3, .int .u8 y4, .int .u8 y5, .int .u8 y6, .int .u8 y7] t (0, 0))) : ReadsInt w .u8 (some ⟨b, 0, none⟩) 8 [y0, y1, y2, y3, y4, y5, y6, y7] :=
  ⟨rfl, by simp, fun _ => ⟨_, rfl, fun j hj => by
    rw [add_plain]
    rcases (show j = 0 ∨ j = 1 ∨ j = 2 ∨ j = 3 ∨ j = 4 ∨ j = 5 ∨ j = 6 ∨ j = 7 by omega) with rfl | rfl | rfl | rfl | rfl | rfl | rfl | rfl <;> exact blk_cell h rfl⟩⟩
theorem grown_of_below {w w1 : World} (h : Below w.heap.size w w1) : w.grownBy w1 none := ⟨h.os, h.tape, h.output, h.size, fun i hi _ => h.block i hi⟩
theorem from_run (g n c m : Nat) (i : Int) (hi : i = m) (hm : m ≤ n) (hc : m < c) (W : World) : (Instr.slice 23 (.slice (some ⟨g, 0, none⟩) n c) (some (.int .i64 i)) none none).run Try.prog W = .ok (.slice (some ⟨g, m, none⟩) (n - m) (c - m)) W := by
  subst hi
  obtain ⟨j, hj, hz⟩ := info_of
  have hel : Try.prog.elem 23 = 5 := by simp [Program.elem, Try.underlying23]
  have hu : Try.prog.underlying 23 = some (.slice (Try.prog.elem 23)) := by rw [hel]; exact Try.underlying23
  rw [run_slice_l W 23 _ n c hu .i64 (m : Int) (Int.natCast_nonneg _) (by omega), hel]
  have : ¬ c = m := by omega
  simp [sizeOf, typeInfo, hj, hz, sliced, Result.andThen, this, Addr.add]
  exact fun h => h.symm
set_option maxRecDepth 100000 in
theorem crash_calls (w : World) (p : Nat) (v : Value) (s f : Nat) (d : Dev) (A : Option Addr) (c : Nat) (keep : List Int) (h : HasD w p v s f d) (hr : ReadsInt w .i64 A keep.length keep) (hA : 0 < keep.length → ∀ ad, A = some ad → ¬ some ad.block = v.ownBlock) :
    Calls Try.prog 30 #[.pointer (some ⟨p, 0, none⟩), .slice A keep.length c] w fun e w' => e = .returned (.tuple #[]) ∧ HasD w' p v s f (d.crash keep) ∧ Fr (OwnD v s f) w w' := by
  have HH := Aside0.mk h
  have d1 := cell_alloc (blk_cell h.ptr (i := 1) rfl)
  obtain ⟨D, hD, hfit⟩ := h.safe
  have HD := Aside0.mk hD
  have HFIT := Aside0.mk hfit
  have HR := Aside0.mk hr
  have HOK := Aside0.mk h.ok
  have hnp := h.p_own
  clear h hD hfit hr
  go_enter Try.func30, Try.ntmps30
  go_wp2_with (at_range; refine wpList_range_own _ rfl _ _ rfl 3 116 law_int Try.underlying110 heldR s _ D rfl (HD.out.alloc _) ?_; intro w0 hrg0 hg0 hs0; rw [World.size_alloc])
  go_frame
  rw [World.size_alloc] at hrg0
  have HRG0 := Aside0.mk hrg0
  have hfr0 : Fr (fun b => some b = v.ownBlock) w w0 := ((Fr.refl _ _).alloc (.cells #[.slice A keep.length c] 24)).grown hg0 (fun k hk => by cases hk)
  have HFR0 := Aside0.mk hfr0
  have HBK := Aside0.mk (show w0.heap[w.heap.size]? = some (.cells #[.slice A keep.length c] 24 (0, 0)) from (hg0.block w.heap.size (by simp) (by simp)).trans (heap_alloc_new _ _))
  have HB0 := Aside0.mk (show Kd.R (Kd.int .u8) 5 w0 0 (fun k => k ≠ p) v (leftB d keep (has D)) by
    rw [leftB_start HOK.out keep HFIT.out]
    exact R_at HH.out.row (fun b hb => (hg0.block b (by have := HH.out.own_lt (.inl hb); simp; omega) (by simp)).trans (heap_alloc_old _ _ (HH.out.own_lt (.inl hb)))))
  have HS0 := Aside0.mk (show w.heap.size + 2 ≤ w0.heap.size by rw [hs0, World.size_alloc]; omega)
  clear hrg0 hg0 hs0 hfr0 d1
  go_loopw [5, 6] (fun _ _ wr => ∃ left cnt, Aside0 (wr.ranges Try.prog 3 heldR s (w.heap.size + 1) (Maps.size D) D left cnt) ∧ Aside0 (Kd.R (Kd.int .u8) 5 wr 0 (fun k => k ≠ p) v (leftB d keep left)) ∧ Aside0 (wr.heap[w.heap.size]? = some (.cells #[.slice A keep.length c] 24 (0, 0))) ∧ Aside0 (Fr (fun b => some b = v.ownBlock) w wr) ∧ Aside0 (w.heap.size + 2 ≤ wr.heap.size)) (fun _ _ wr => wr.rangeLeft s (w.heap.size + 1))
  case atStart => exact ⟨has D, Maps.size D, HRG0, HB0, HBK, HFR0, HS0⟩
  case round =>
    obtain ⟨left, cnt, HRG, HB, HBQ, HFR, HSZ⟩ := hrel
    have c1 := HFR.out.cell (blk_cell HH.out.ptr (i := 1) rfl) (fun e => hnp (.inl e))
    have c2 := HFR.out.cell (blk_cell HH.out.ptr (i := 2) rfl) (fun e => hnp (.inl e))
    go_wp2_with (at_next; refine wpList_next_ranges _ rfl _ rfl 3 law_int heldR (Value.int .i64) (fun (x : Value) => x) (fun key kl hkey => by obtain ⟨x, rfl, _⟩ := Maps.keyOf_int_inv Try.underlying3 hkey; exact ⟨x, rfl⟩) (fun u y hu => ⟨u, rfl⟩) s (w.heap.size + 1) _ D left cnt rfl HRG.out ?_ ?_)
    · intro _ hl0
      have HE := Aside0.mk (leftB_end (d := d) keep hl0)
      clear hl0
      have HMS := Aside0.mk (MapF.of_own HRG.out.owns HFIT.out)
      have HF1 := Aside0.mk (HH.out.fl.fr HFR.out (fun e => (HH.out.v_ne e).2 rfl))
      go_wp2_with (first | ((with_reducible refine gate_bi (b := .clear) (xs := #[.tmp 33]) rfl ?_); refine wpList_clear rfl (.tmp 33) 110 rfl Try.underlying110 rfl HMS.out ?_; intro w2 hm2 ht2; have HM2 := Aside0.mk hm2; have HT2 := Aside0.mk ht2; have e2 := (ht2.fr (S := fun b => b = s) rfl).cell c2 (fun e => hnp (.inr (.inl e))); have HF2 := Aside0.mk (HF1.out.fr (ht2.fr (S := fun b => b = s) rfl) (fun e => HH.out.ne e.symm)); clear hm2 ht2) | ((with_reducible refine gate_bi (b := .clear) (xs := #[.tmp 37]) rfl ?_); refine wpList_clear rfl (.tmp 37) 111 rfl Try.underlying111 rfl HF2.out ?_; intro w3 hm3 ht3))
      go_end0
      have hS := HH.out
      have hf23 : Fr (MapsD s f) wr w3 := (HT2.out.fr (S := MapsD s f) (.inl rfl)).trans' (ht3.fr (.inr rfl))
      have hfr : Fr (OwnD v s f) w w3 := (HFR.out.mono (fun b hb => .inl hb)).trans' (hf23.mono (fun b hb => hb.own))
      refine ⟨rfl, ⟨(hfr.block p hS.p_lt hS.p_own).trans hS.ptr, ?_, ?_, hm3.congr (fun kl => ?_), hS.ne, hS.ok.crash keep⟩, hfr⟩
      · rw [← HE.out]
        exact R_at HB.out (fun b hb => by
          obtain ⟨cs, t, fr, hc⟩ := own_blk HB.out hb
          exact hf23.block b (blk_lt hc) (fun e => by rcases e with e | e; exact (hS.v_ne hb).1 e; exact (hS.v_ne hb).2 e))
      · refine (HM2.out.fr (ht3.fr (S := fun b => b = f) rfl) hS.ne).congr (fun kl => ?_)
        unfold safeF
        split
        · split <;> rfl
        · rfl
      · unfold flF
        split
        · simp [Dev.crash]
        · rfl
    · intro x u kl yd yp w1 cnt1 hkey hlk hv hat hrg1 hlt hg1 hs1 hen
      obtain ⟨k, cc, hkl, hcc, hu⟩ := safe_key HFIT.out (v := u) (fun zd => (hat zd).trans (held_inv (y := (yd, yp)) hv))
      subst hkl hu
      obtain ⟨x', ex, ekl, _⟩ := Maps.keyOf_int_inv Try.underlying3 hkey
      simp only [Value.int.injEq, true_and] at ex
      subst ex
      simp only [Lit.int.injEq, true_and] at ekl
      subst ekl
      have hkB := HOK.out.dom k (by rw [hcc]; rfl)
      have hmx := HOK.out.max
      obtain ⟨y0, y1, y2, y3, y4, y5, y6, y7, rfl⟩ := list8 (HOK.out.safe k cc hcc).1
      have HCC := Aside0.mk hcc
      have HRG1 := Aside0.mk hrg1
      have HLT := Aside0.mk hlt
      have hvn : ¬ some (w.heap.size + 1) = v.ownBlock := fun e => absurd (HH.out.own_lt (.inl e)) (by omega)
      have HB1 := Aside0.mk (R_at HB.out (fun b hb => by
          obtain ⟨cs, t, fr, hc⟩ := own_blk HB.out hb
          exact hg1.block b (blk_lt hc) (fun e => hvn (by rw [← Option.some.inj e]; exact hb))))
      have HBQ1 := Aside0.mk ((hg1.block w.heap.size (by have := HSZ.out; omega) (fun e => by have := Option.some.inj e; omega)).trans HBQ.out)
      have HFR1 := Aside0.mk (HFR.out.grown hg1 (fun j hj => .inr (by have := Option.some.inj hj; omega)))
      have HSZ1 := Aside0.mk (show w.heap.size + 2 ≤ w1.heap.size by rw [hs1]; exact HSZ.out)
      have HEN := Aside0.mk hen
      have hen2 : (Instr.entry (.pointer (some ⟨w.heap.size + 1, 0, none⟩))).run Try.prog w1 = .ok (.tuple #[.int .i64 k, .agg #[.int .u8 y0, .int .u8 y1, .int .u8 y2, .int .u8 y3, .int .u8 y4, .int .u8 y5, .int .u8 y6, .int .u8 y7]]) w1 := hen
      have q0 := cell_alloc (blk_cell HBQ1.out (i := 0) rfl)
      clear hrg1 hkey hlk hv hat hlt hg1 hs1 hcc hen hvn
      by_cases hm : (k : Int) ∈ keep
      · have HMM := Aside0.mk (show decide ((k : Int) ∈ keep) = true from decide_eq_true hm)
        have HKE := Aside0.mk (leftB_kept HOK.out keep left hm)
        clear hm c1 c2
        go_wp2_with (go_at_call 72; have hlc := lost_calls _ w.heap.size A c keep k (q0 (.cells #[.int .u8 y0, .int .u8 y1, .int .u8 y2, .int .u8 y3, .int .u8 y4, .int .u8 y5, .int .u8 y6, .int .u8 y7] 116)) (reads_frA HR.out (HFR1.out.alloc _) hA); rw [HMM.out] at hlc; (with_reducible refine hlc.mono ?_); rintro e w2 ⟨rfl, hb2⟩; have HB2 := Aside0.mk (bel_step (below_alloc (Below.refl w1.heap.size w1) _) hb2); have HBX := Aside0.mk ((hb2.block w1.heap.size (by simp)).trans (heap_alloc_new w1 _)); clear hlc hb2)
        have hgb := grown_of_below HB2.out
        have hrg2 := HRG1.out.kept hgb (by simp) (by simp)
        refine ⟨⟨_, cnt1, ⟨hrg2⟩, ⟨?_⟩, ⟨(HB2.out.block _ (blk_lt HBQ1.out)).trans HBQ1.out⟩, ⟨HFR1.out.then_below HB2.out⟩, ⟨Nat.le_trans HSZ1.out HB2.out.size⟩⟩, ?_⟩
        · rw [← HKE.out]
          exact Kd.R_below HB1.out HB2.out
        · rw [hrg2.left_eq, HRG.out.left_eq]
          exact HLT.out
      · have HMM := Aside0.mk (show decide ((k : Int) ∈ keep) = false from decide_eq_false hm)
        have HLO := Aside0.mk (leftB_lost HOK.out keep left HCC.out hm)
        clear hm c1 c2
        go_wp2_with (go_at_call 72; have hlc := lost_calls _ w.heap.size A c keep k (q0 (.cells #[.int .u8 y0, .int .u8 y1, .int .u8 y2, .int .u8 y3, .int .u8 y4, .int .u8 y5, .int .u8 y6, .int .u8 y7] 116)) (reads_frA HR.out (HFR1.out.alloc _) hA); rw [HMM.out] at hlc; (with_reducible refine hlc.mono ?_); rintro e w2 ⟨rfl, hb2⟩; have HB2 := Aside0.mk (bel_step (below_alloc (Below.refl w1.heap.size w1) _) hb2); have HBX := Aside0.mk ((hb2.block w1.heap.size (by simp)).trans (heap_alloc_new w1 _)); clear hlc hb2)
        have HFR2 := Aside0.mk (HFR1.out.then_below HB2.out)
        have hB2 := Kd.R_below HB1.out HB2.out
        have hln := leftB_length HOK.out keep left
        obtain ⟨g, cap, rfl, hg1, hg2, hcap, hcap2⟩ := own_slice_form hB2 (by omega)
        rw [hln] at hB2 HB1 HH HB hcap
        have e0 : w2.cell? ⟨p, 0, none⟩ = some (.slice (some ⟨g, 0, none⟩) d.B.length cap) := HFR2.out.cell (blk_cell HH.out.ptr (i := 0) rfl) (fun e => hnp (.inl e))
        have HB2r := Aside0.mk hB2
        have HLN := Aside0.mk hln
        have e8 : IntKind.i64.wrap ((k : Int) * 8) = k * 8 := IntWalk.i64_in _ (by omega)
        have hfr := fun W => from_run g d.B.length cap (k * 8) ((k : Int) * 8) (by omega) (by omega) (by omega) W
        clear hB2 hln q0 hen2
        go_still_tail 8, (by kernel_rfl)
        have HRD := Aside0.mk (show Kd.R (Kd.int .u8) 5 w2.drew 0 (fun k => k ≠ p) (.slice (some ⟨g, 0, none⟩) (leftB d keep left).length cap) (leftB d keep left) by rw [HLN.out]; exact HB2r.out)
        have HCY := Aside0.mk (show ReadsInt w2.drew .u8 (some ⟨w1.heap.size, 0, none⟩) 8 [y0, y1, y2, y3, y4, y5, y6, y7] from arr_reads HBX.out)
        have HL8 := Aside0.mk (show k * 8 + 8 ≤ (leftB d keep left).length by rw [HLN.out]; omega)
        clear e8 hfr e0
        change wpList _ _ _ _ _ w2.drew
        go_wp2_with ((with_reducible refine gate_bi (b := .copy) (xs := #[.tmp 27, .tmp 28]) rfl ?_); go_must (refine wpList_copy_at (enc := Value.int .u8) (h1 := fun _ => rfl) (0 : Int) rfl (.tmp 27) (.tmp 28) 23 23 5 rfl Try.underlying23 (by kernel_rfl) g cap (k * 8) (some ⟨g, k * 8, none⟩) (d.B.length - k * 8) (cap - k * 8) (leftB d keep left) [y0, y1, y2, y3, y4, y5, y6, y7] (some ⟨w1.heap.size, 0, none⟩) 8 8 0 (fun k => k ≠ p) rfl rfl HRD.out (Kd.C_of_reads (d := (0 : Int)) (h1 := fun _ => rfl) HCY.out) HL8.out (by omega) (fun _ => rfl) ?_); intro w3 hr3 hg3; go_frame)
        have hgb := (grown_of_below (HB2.out.drew))
        have hgl : g < w.heap.size := HH.out.own_lt (.inl rfl)
        have hgs : g ≠ s := (HH.out.v_ne rfl).1
        have hrg2 := (HRG1.out.kept hgb (by simp) (by simp)).kept hg3 (fun e => hgs (Option.some.inj e).symm) (fun e => by have := Option.some.inj e; omega)
        refine ⟨⟨_, cnt1, ⟨hrg2⟩, ⟨?_⟩, ⟨?_⟩, ⟨?_⟩, ⟨?_⟩⟩, ?_⟩
        · have h := hr3
          rw [Nat.mul_comm k 8] at h
          rw [← HLO.out]
          exact h
        · exact (hg3.block w.heap.size (by have := HSZ1.out; have := HB2.out.size; show _ < w2.heap.size; omega) (fun e => by have := Option.some.inj e; omega)).trans ((HB2.out.block _ (blk_lt HBQ1.out)).trans HBQ1.out)
        · exact ((HFR1.out.then_below HB2.out).drew).grown hg3 (fun j hj => .inl hj.symm)
        · exact Nat.le_trans HSZ1.out (Nat.le_trans HB2.out.size hg3.size)
        · rw [hrg2.left_eq, HRG.out.left_eq]
          exact HLT.out
end Go.Proofs.Ytbfogcckbhkciaa.Hand
