/- Slots as bytes. -/
import Derived.Test.YtbogfjadmiodkaaHandSl6
import Derived.Test.YtbogfjadmiodkaaHandPuts2
import Derived.Test.YtbogfjadmiodkaaHandAppend
import Derived.Test.YtbogfjadmiodkaaWLast
namespace Go.Proofs.Ytbogfjadmiodkaa.Hand
open Go.RowKit Go.Proofs.YtbogfjadmiodkaaW.PrintWords Go.Proofs.YtbogfjadmiodkaaW.PrintLast
set_option linter.unusedSimpArgs false

def WfSl (x : Sl) : Prop := (0 ≤ x.1 ∧ x.1 ≤ 65535) ∧ (0 ≤ x.2.2 ∧ x.2.2 < 18446744073709551616)
def encOne (x : Sl) : List Int := putL x.1 2 ++ (if x.2.1 then 1 :: putL x.2.2 8 else [0])
def encM (L : List Sl) : List Int := putL L.length 2 ++ L.flatMap encOne
theorem encOne_le (x : Sl) : (encOne x).length ≤ 17 := by
  have h1 := putL_le x.1 2
  have h2 := putL_le x.2.2 8
  unfold encOne
  rw [List.length_append]
  split <;> simp <;> omega
theorem encs_le (L : List Sl) : (L.flatMap encOne).length ≤ L.length * 17 := by
  induction L with
  | nil => simp
  | cons x L ih =>
    have := encOne_le x
    rw [List.flatMap_cons, List.length_append, List.length_cons, Nat.succ_mul]
    omega
theorem new_ok {w wr : World} (hb : Below w.heap.size w wr) {o : Obj} {k : Nat} (hk : (wr.alloc o).heap.size ≤ k) : New w k ∧ k ≠ wr.heap.size := by
  have h1 := hb.size
  have h2 : (wr.alloc o).heap.size = wr.heap.size + 1 := by simp
  exact ⟨by show w.heap.size ≤ k; omega, by omega⟩
theorem new_at {w w2 : World} (hb : Below w.heap.size w w2) {b k : Nat} (h : b < w2.heap.size) (hk : w2.heap.size ≤ k) : New w k ∧ k ≠ b := by
  have h1 := hb.size
  exact ⟨by show w.heap.size ≤ k; omega, by omega⟩
theorem take_snoc {α : Type} {L : List α} {k : Nat} {x : α} (h : L[k]? = some x) : L.take (k + 1) = L.take k ++ [x] := by
  rw [List.take_add_one, h]
  rfl
set_option maxHeartbeats 1000000 in
theorem encode_calls (w : World) (p : Nat) (v : Value) (L : List Sl) (h : HasSl w p v L) (hl : L.length ≤ 256) (hw : ∀ x ∈ L, WfSl x) :
    Calls Try.prog 20 #[.pointer (some ⟨p, 0, none⟩)] w fun e w' => ∃ u : Value, e = .returned u ∧ Kd.R (Kd.int .u8) 5 w' 0 (New w) u (encM L) ∧ Below w.heap.size w w' := by
  obtain ⟨A, c, hv, hlc, hC⟩ := flat_reads h.row
  subst hv
  have hc := cell_of_one h.ptr
  have HH := Aside0.mk h
  have HW := Aside0.mk hw
  clear h hC hw
  go_enter Try.func20, Try.ntmps20
  go_wp2_with (go_at_call 35; (with_reducible refine (put_any (New w) (.slice none 0 0) [] 2 L.length w (Kd.R_nil _ _ _ _ _) (by simp)).mono ?_); rintro e w1 ⟨v1, rfl, hr1, hf1⟩; have HR1 := Aside0.mk (Kd.R_mono hr1 (fun k hk => (hk.elim id id : New w k))); have HB1 := Aside0.mk (hf1.below w.heap.size (Nat.le_refl _) (fun b hb => hb)); clear hr1 hf1; have hcp := (cell_of_one (HH.out.move HB1.out).ptr))
  rw [List.nil_append] at HR1
  obtain ⟨P0, hP0⟩ : ∃ P0, P0 = putL (L.length : Int) 2 := ⟨_, rfl⟩
  have hPl : P0.length ≤ 8 := by rw [hP0]; exact putL_le _ _
  have HPE := Aside0.mk (show encM L = P0 ++ L.flatMap encOne by rw [encM, hP0])
  rw [← hP0] at HR1
  clear hP0
  go_loopw [3, 22] (fun b i wr => ∃ j : Nat, j ≤ L.length ∧ i = .int .i64 j ∧ Aside0 (Kd.R (Kd.int .u8) 5 wr 0 (New w) b (P0 ++ (L.take j).flatMap encOne)) ∧ Aside0 (Below w.heap.size w wr)) (fun _ i _ => (L.length - intOf i).toNat)
  case atStart => exact ⟨0, Nat.zero_le _, rfl, ⟨by simpa using HR1.out⟩, HB1⟩
  case round =>
    obtain ⟨j, hj, rfl, HO, HB⟩ := hrel
    obtain ⟨Ab, cb, rfl, hcb, hRb⟩ := reads_own2 HO.out
    clear hcb hRb
    obtain ⟨bs, hbs⟩ : ∃ bs, bs = P0 ++ (L.take j).flatMap encOne := ⟨_, rfl⟩
    have hbl : bs.length ≤ 5000 := by
      have h1 := encs_le (L.take j)
      rw [hbs, List.length_append]
      rw [List.length_take] at h1
      omega
    rw [← hbs] at HO ⊢
    have HBS := Aside0.mk hbs
    clear hbs
    by_cases hjl : j < L.length
    · obtain ⟨y, hy⟩ : ∃ y, L[j]? = some y := ⟨_, List.getElem?_eq_getElem hjl⟩
      obtain ⟨⟨hg0, hg1⟩, hv0, hv1⟩ := HW.out y (List.mem_of_getElem? hy)
      have HT := Aside0.mk (show P0 ++ (L.take (j + 1)).flatMap encOne = bs ++ encOne y by rw [take_snoc hy, List.flatMap_append, HBS.out, List.append_assoc]; simp)
      have HS := HH.out.move HB.out
      rcases HS.form with ⟨hv, rfl⟩ | ⟨g, cap, hv, hg, hcap, hcap2⟩
      · simp at hjl
      obtain ⟨rfl, rfl⟩ : A = some ⟨g, 0, none⟩ ∧ c = cap := by injection hv with h1 h2 h3; exact ⟨h1, h3⟩
      obtain ⟨⟨c0, c1, c2⟩, f0, f1, f2⟩ := slot_cells HS hy
      clear HS hv
      have hkb := heap_alloc_new wr (Obj.cells #[Value.int IntKind.i64 y.1, Value.bool y.2.1, Value.int IntKind.u64 y.2.2] 70)
      have HKB := Aside0.mk hkb
      have HO1 : Aside0 (Kd.R (Kd.int .u8) 5 (wr.alloc (Obj.cells #[Value.int IntKind.i64 y.1, Value.bool y.2.1, Value.int IntKind.u64 y.2.2] 70)) 0 (fun k => New w k ∧ k ≠ wr.heap.size) (.slice Ab bs.length cb) bs) := ⟨Kd.R_below (Kd.R_mono (Kd.R_bound HO.out) (fun k hk => ⟨hk.1, by have := hk.2.2.1; omega⟩)) (below_alloc (Below.refl _ _) _)⟩
      clear hkb
      have p0 := putL_le y.1 2
      cases hyu : y.2.1 with
      | true =>
        rw [hyu] at c1 HKB HO1
        have HE := Aside0.mk (show encOne y = putL y.1 2 ++ ([1] ++ putL y.2.2 8) by rw [encOne, hyu]; rfl)
        go_wp2_with (go_at_call 35; (with_reducible refine (put_any (fun k => New w k ∧ k ≠ wr.heap.size) (.slice Ab bs.length cb) bs 2 y.1 _ HO1.out (by omega)).mono ?_); rintro e w2 ⟨v2, rfl, hr2, hf2⟩; have HR2 : Aside0 (Kd.R (Kd.int .u8) 5 w2 0 (fun k => New w k ∧ k ≠ wr.heap.size) v2 (bs ++ putL y.1 2)) := ⟨Kd.R_mono hr2 (fun k hk => hk.elim id (new_ok HB.out))⟩; have HB2 := Aside0.mk ((below_alloc HB.out _).trans (hf2.below w.heap.size (below_alloc HB.out _).size (fun b hb => hb.1))); obtain ⟨A2, d2, rfl, hd2, hR2⟩ := reads_own2 hr2; rw [List.length_append]; have hkb2 := hf2.get HKB.out (fun hk => hk.2 rfl); have k1 := blk_cell hkb2 (i := 1) rfl; have k2 := blk_cell hkb2 (i := 2) rfl; have HKB2 := Aside0.mk hkb2; clear hr2 hf2 hd2 hR2 hkb2)
        have HCB := Aside0.mk (show ∀ W, Below w2.heap.size w2 W → W.cell? ⟨wr.heap.size, 2, none⟩ = some (.int .u64 y.2.2) from fun W hW => blk_cell ((hW.block _ (blk_lt HKB2.out)).trans HKB2.out) rfl)
        have hbx2 := blk_lt HKB2.out
        obtain ⟨b2, hb2⟩ : ∃ b2, b2 = bs ++ putL y.1 2 := ⟨_, rfl⟩
        have hb2l : b2.length ≤ 5008 := by rw [hb2, List.length_append]; omega
        rw [← List.length_append]
        rw [← hb2] at HR2 ⊢
        have HB2E := Aside0.mk hb2
        clear hb2 k1 k2
        refine start_ (n := 10) (S := fun w' => w'.cell? ⟨wr.heap.size, 2, none⟩ = some (.int .u64 y.2.2)) (ds := []) #[false, false, false, false, false, false, false, false, false, false] (by kernel_rfl) rfl rfl ((HCB.out _ (Below.refl _ _).drew)) (fun hHeld => ?_)
        refine pure_ (i := 0) (N := some 41) (v := ?_) (a' := ?_) #[true, false, false, false, false, false, false, false, false, false] rfl rfl (by kernel_rfl) (fun _ _ _ h => h) (Or.inl ⟨by rfl, ?_⟩) ?_ ?_
        rotate_left
        · intro w'
          go_simp
          with_reducible rfl
        rotate_left
        · simp only [Act.put, List.setIfInBounds_toArray, List.set_cons_zero, List.set_cons_succ, i64_w, i32_w]
          rfl
        refine pure_ (i := 3) (N := some 44) (v := ?_) (a' := ?_) #[true, false, false, true, false, false, false, false, false, false] rfl rfl (by kernel_rfl) (fun _ _ _ h => h) (Or.inl ⟨by rfl, ?_⟩) ?_ ?_
        rotate_left
        · intro w'
          go_simp
          with_reducible rfl
        rotate_left
        · simp only [Act.put, List.setIfInBounds_toArray, List.set_cons_zero, List.set_cons_succ, i64_w, i32_w]
          rfl
        refine take_ (i := 4) (N := some 45) (v := ?_) (a' := ?_) #[true, false, false, true, true, false, false, false, false, false] rfl rfl (by kernel_rfl) (fun _ _ _ h => h) (Or.inl ⟨by rfl, ?_⟩) hHeld ?_ ?_
        rotate_left
        · intro w' s0
          go_simp
          with_reducible rfl
        rotate_left
        · simp only [Act.put, List.setIfInBounds_toArray, List.set_cons_zero, List.set_cons_succ, i64_w, i32_w]
          rfl
        refine one_ (i := 1) (N := some 42) #[true, true, false, true, true, false, false, false, false, false] rfl rfl (by kernel_rfl) (by decide) (fun K hK => ?_)
        refine value_ (w1 := ?_) (v := ?_) (by rfl) rfl ?_ ?_
        rotate_left 2
        · go_simp
          constructor
          · rfl
          · rfl
        refine hK.out _ _ ((HCB.out _ (below_alloc (Below.refl _ _).drew _))) (fun hHeld => ?_)
        clear hK K
        refine norm_ (a' := ?_) ?_ ?_
        rotate_left
        · show Act.put _ (some 42) _ = _
          simp only [Act.put, List.setIfInBounds_toArray, List.set_cons_zero, List.set_cons_succ, i64_w, i32_w]
          rfl
        refine one_ (i := 2) (N := some 43) #[true, true, true, true, true, false, false, false, false, false] rfl rfl (by kernel_rfl) (by decide) (fun K hK => ?_)
        refine Kd.R_append_step (Kd.int .u8) (w0 := w2.drew) (W := w2.drew) 0 ?hw (.tmp 41) (.tmp 42) 34 5 (.int .u8 0) 1 rfl Try.underlying34 info_u8 rfl (by decide) (by omega) (.slice A2 b2.length d2) b2 1 [.int .u8 1] (fun k => New w k ∧ k ≠ wr.heap.size) (fun _ => False) rfl rfl rfl (fun _ hk => hk.elim) (fun k hk => new_at HB2.out hbx2 hk) (Kd.R_below HR2.out (Below.refl _ _).drew) (Below.refl _ _) (Nat.zero_le _) (by omega) ?_
        case hw => rfl
        intro v3 w3 hr3 hb3 hg3 hat3
        have HR3 := Aside0.mk hr3
        have HF3 := Aside0.mk ((Fr.refl (fun k => New w k ∧ k ≠ wr.heap.size) w2).drew.grown hg3 (fun k hk => .inl (HR2.out.1 k hk)))
        clear hr3 hb3 hg3 hat3
        refine hK.out _ _ ((blk_cell (HF3.out.get HKB2.out (fun hk => hk.2 rfl)) rfl)) (fun hHeld => ?_)
        clear hK K
        refine norm_ (a' := ?_) ?_ ?_
        rotate_left
        · show Act.put _ (some 43) _ = _
          simp only [Act.put, List.setIfInBounds_toArray, List.set_cons_zero, List.set_cons_succ, i64_w, i32_w]
          rfl
        refine one_ (i := 5) (N := some 46) #[true, true, true, true, true, true, false, false, false, false] rfl rfl (by kernel_rfl) (by decide) (fun K hK => ?_)
        refine goes_ Try.func35 (by kernel_rfl) rfl #[v3, .int .i64 8, .int .u64 y.2.2] (by rfl) rfl rfl (by simp only [List.map_toArray, List.map_cons, List.map_nil]; rfl) ?_
        with_reducible refine (put_any (fun k => New w k ∧ k ≠ wr.heap.size) v3 (b2 ++ [1]) 8 y.2.2 _ HR3.out (by rw [List.length_append]; simp; omega)).mono ?_
        rintro e w4 ⟨v4, rfl, hr4, hf4⟩
        refine ⟨_, rfl, ?_⟩
        have HR4 := Aside0.mk hr4
        have HF4 := Aside0.mk hf4
        clear hr4 hf4
        refine hK.out _ _ ((blk_cell (HF4.out.get (HF3.out.get HKB2.out (fun hk => hk.2 rfl)) (fun hk => hk.2 rfl)) rfl)) (fun hHeld => ?_)
        clear hK K
        refine norm_ (a' := ?_) ?_ ?_
        rotate_left
        · show Act.put _ (some 46) _ = _
          simp only [Act.put, List.setIfInBounds_toArray, List.set_cons_zero, List.set_cons_succ, i64_w, i32_w]
          rfl
        refine pure_ (i := 6) (N := some 40) (v := ?_) (a' := ?_) #[true, true, true, true, true, true, true, false, false, false] rfl rfl (by kernel_rfl) (fun _ _ _ h => h) (Or.inl ⟨by rfl, ?_⟩) ?_ ?_
        rotate_left
        · intro w'
          go_simp
          with_reducible rfl
        rotate_left
        · simp only [Act.put, List.setIfInBounds_toArray, List.set_cons_zero, List.set_cons_succ, i64_w, i32_w]
          rfl
        refine pure_ (i := 7) (N := some 47) (v := ?_) (a' := ?_) #[true, true, true, true, true, true, true, true, false, false] rfl rfl (by kernel_rfl) (fun _ _ _ h => h) (Or.inl ⟨by rfl, ?_⟩) ?_ ?_
        rotate_left
        · intro w'
          go_simp
          with_reducible rfl
        rotate_left
        · simp only [Act.put, List.setIfInBounds_toArray, List.set_cons_zero, List.set_cons_succ, i64_w, i32_w]
          rfl
        refine pure_ (i := 8) (N := some 48) (v := ?_) (a' := ?_) #[true, true, true, true, true, true, true, true, true, false] rfl rfl (by kernel_rfl) (fun _ _ _ h => h) (Or.inl ⟨by rfl, ?_⟩) ?_ ?_
        rotate_left
        · intro w'
          go_simp
          with_reducible rfl
        rotate_left
        · simp only [Act.put, List.setIfInBounds_toArray, List.set_cons_zero, List.set_cons_succ, i64_w, i32_w]
          rfl
        refine pure_ (i := 9) (N := some 3) (v := ?_) (a' := ?_) #[true, true, true, true, true, true, true, true, true, true] rfl rfl (by kernel_rfl) (fun _ _ _ h => h) (Or.inl ⟨by rfl, ?_⟩) ?_ ?_
        rotate_left
        · intro w'
          go_simp
          with_reducible rfl
        rotate_left
        · simp only [Act.put, List.setIfInBounds_toArray, List.set_cons_zero, List.set_cons_succ, i64_w, i32_w]
          rfl
        refine done_ (by kernel_rfl) ?_

        go_wp2
        go_roundw
        case rel => exact ⟨j + 1, by omega, by go_num, ⟨by
          rw [HT.out, HE.out]
          have h4 := Kd.R_mono HR4.out (ok' := New w) (fun k hk => hk.elim (·.1) (fun h => Nat.le_trans (Nat.le_trans HB2.out.size HF3.out.size) h))
          rw [HB2E.out] at h4
          simpa [List.append_assoc] using h4⟩, ⟨(HB2.out.trans (HF3.out.below _ HB2.out.size (fun b hb => hb.1))).trans (HF4.out.below _ (Nat.le_trans HB2.out.size HF3.out.size) (fun b hb => hb.1))⟩⟩
        case measure => (simp [intOf]) <;> omega
      | false =>
        rw [hyu] at c1 HKB HO1
        have HE := Aside0.mk (show encOne y = putL y.1 2 ++ [0] by rw [encOne, hyu]; rfl)
        go_wp2_with (first | (go_at_call 35; (with_reducible refine (put_any (fun k => New w k ∧ k ≠ wr.heap.size) (.slice Ab bs.length cb) bs 2 y.1 _ HO1.out (by omega)).mono ?_); rintro e w2 ⟨v2, rfl, hr2, hf2⟩; have HR2 : Aside0 (Kd.R (Kd.int .u8) 5 w2 0 (fun k => New w k ∧ k ≠ wr.heap.size) v2 (bs ++ putL y.1 2)) := ⟨Kd.R_mono hr2 (fun k hk => hk.elim id (new_ok HB.out))⟩; have HB2 := Aside0.mk ((below_alloc HB.out _).trans (hf2.below w.heap.size (below_alloc HB.out _).size (fun b hb => hb.1))); obtain ⟨A2, d2, rfl, hd2, hR2⟩ := reads_own2 hr2; rw [List.length_append]; have hkb2 := hf2.get HKB.out (fun hk => hk.2 rfl); have k1 := blk_cell hkb2 (i := 1) rfl; have k2 := blk_cell hkb2 (i := 2) rfl; have HKB2 := Aside0.mk hkb2; clear hr2 hf2 hd2 hR2 hkb2) | ((with_reducible refine gate_bi (b := .append) (xs := #[.tmp 37, .tmp 38]) rfl ?_); at_builtin; rw [← List.length_append]; refine Kd.R_append (Kd.int .u8) (w0 := w2) 0 rfl (.tmp 37) (.tmp 38) 34 5 (.int .u8 0) 1 rfl Try.underlying34 info_u8 rfl (by decide) (by omega) (.slice A2 (bs ++ putL y.1 2).length d2) (bs ++ putL y.1 2) 0 [.int .u8 0] (New w) (fun _ => False) rfl rfl ?aP (fun _ hk => hk.elim) ?aF ?aO ?aB ?aS ?aL ?_))
        case aP => exact rfl
        case aF => exact fun k hk => Nat.le_trans HB2.out.size hk
        case aO => exact Kd.R_mono HR2.out (fun k hk => hk.1)
        case aB => exact Below.refl _ _
        case aS => exact Nat.zero_le _
        case aL => rw [List.length_append]; omega
        intro v3 w3 hr3 hb3 hg3 hat3
        have HR3 := Aside0.mk hr3
        have HB3 := Aside0.mk (HB2.out.grown hg3 HB2.out.size (fun k hk => (HR2.out.1 k (by simpa [Value.ownBlock] using hk)).1))
        clear hr3 hb3 hg3 hat3
        go_wp2
        go_roundw
        case rel => exact ⟨j + 1, by omega, by go_num, ⟨by
          rw [HT.out, HE.out]
          exact HR3.out⟩, HB3⟩
        case measure => (simp [intOf]) <;> omega
    · obtain rfl : j = L.length := by omega
      go_wp2
      go_ret
      refine ⟨_, rfl, ?_, HB.out⟩
      rw [HPE.out]
      have h1 := HBS.out
      rw [List.take_of_length_le (Nat.le_refl _)] at h1
      rw [← h1]
      exact HO.out
end Go.Proofs.Ytbogfjadmiodkaa.Hand
