/- What a claim needs of the walks and contracts, part 8. -/
import Derived.Deep.Slices
import Derived.ChangeSame
import Derived.Lib.SmallJoins
import Derived.Test.YtbfogcckbhkciaaGreatHandG7
namespace Go.Proofs.YtbfogcckbhkciaaGreat.Hand
set_option linter.unusedVariables false
set_option linter.unusedSimpArgs false
open Go.RowKit Go.Maps Go.Proofs.YtbfogcckbhkciaaGreatW.PrintWords Go.Proofs.YtbfogcckbhkciaaGreatW.PrintLast Go.Proofs.YtbfogcckbhkciaaGreat.PHandRP
set_option linter.unusedVariables false
set_option linter.unusedSimpArgs false
theorem leB_numR {x : List Int} (h : Bys x) {k : Nat} (hk : x.length = k) : leB (numL x) k = x := by
  refine numL_inj (leB_bysq _ _) h (by rw [leB_length, hk]) ?_
  rw [numL_leBq]
  refine Int.emod_eq_of_lt (numL_nonneg h) ?_
  have := numL_lt h
  rw [hk, pow256] at this
  exact this
theorem cut_addR (l : List Int) (a m n : Nat) : cut l a (m + n) = cut l a m ++ cut l (a + m) n := by rw [cut, cut, cut, List.take_add, List.drop_drop]
theorem str_midR (l : List Int) (a n : Nat) (i j : Int) (hi : i = a) (hj : j = a + n) (h : a + n ≤ l.length) (W : World) : (Instr.slice 9 (.string (strOfNums l)) (some (.int .i64 i)) (some (.int .i64 j)) none).run Tryz.prog W = .ok (.string (strOfNums (cut l a n))) W := by
  subst hi hj
  rw [run_slice_string W 9 (strOfNums l) .i64 .i64 (a : Int) ((a : Int) + n) Tryz.underlying9 (by omega) (by omega) (by rw [strOfNums_size]; omega), str_extract, show ((a : Int) + n).toNat = a + n by omega, Int.toNat_natCast, cut, List.drop_take, Nat.add_sub_cancel_left]
theorem str_toR (l : List Int) (a : Nat) (i : Int) (hi : i = a) (h : a ≤ l.length) (W : World) : (Instr.slice 9 (.string (strOfNums l)) none (some (.int .i64 i)) none).run Tryz.prog W = .ok (.string (strOfNums (l.take a))) W := by
  subst hi
  rw [run_slice_string_h W 9 (strOfNums l) Tryz.underlying9 .i64 (a : Int) (by omega) (by rw [strOfNums_size]; omega), str_extract]
  simp
theorem bodyL_setsB {b : List Int} (hb : Bys b) : ∀ m, 8 + 16 * m ≤ b.length → bodyL (setsB b m) = cut b 8 (16 * m)
  | 0, _ => by simp [setsB, bodyL, cut]
  | m + 1, h => by
    rw [setsB_succ, bodyL_snoc, bodyL_setsB hb m (by omega), show 16 * (m + 1) = 16 * m + (8 + 8) by omega, cut_addR, cut_addR, List.append_assoc]
    rw [show leB (atB b m, nB b m).1 8 = cut b (8 + 16 * m) 8 from leB_numR (cut_bys hb _ _) (cut_length (by omega)), show leB (atB b m, nB b m).2 8 = cut b (8 + 16 * m + 8) 8 from by rw [show 8 + 16 * m + 8 = 16 + 16 * m by omega]; exact leB_numR (cut_bys hb _ _) (cut_length (by omega))]
theorem rec_same {b : List Int} (hb : Bys b) {m : Nat} (h : 8 + 16 * m ≤ b.length) {hd : List Int} (h8 : hd.length = 8) : (hd ++ bodyL (setsB b m) = b.take (8 + 16 * m)) ↔ hd = b.take 8 := by
  have e : b.take (8 + 16 * m) = b.take 8 ++ cut b 8 (16 * m) := by rw [cut, List.take_add]
  rw [bodyL_setsB hb m h, e]
  constructor
  · intro h1
    exact (List.append_inj h1 (by rw [h8, List.length_take]; omega)).1
  · intro h1
    rw [h1]
theorem rget_in (W : World) {l : List Int} (hb : Bys l) (hl : l.length ≤ 65536) (a k : Nat) (z : Int) (hz : z = a) (hk : k = 2 ∨ k = 4 ∨ k = 8) (h : a + k ≤ l.length) :
    Calls Tryz.prog 28 #[.string (strOfNums l), .int .i64 z, .int .i64 (k : Int)] W fun e w' => e = .returned (.tuple #[.int .u64 (numL (cut l a k)), .bool true]) ∧ W = w' := by
  subst hz
  have h1 : (rightB (k : Int) && insideB (a : Int) (k : Int) (strOfNums l).size) = true := by
    rw [strOfNums_size]
    rcases hk with rfl | rfl | rfl <;> (simp [rightB, insideB]; omega)
  have := rGet_yes (strOfNums l) a k W (by rw [strOfNums_size]; omega) h1
  rw [bytes_str hb, Int.toNat_natCast, Int.toNat_natCast] at this
  exact this
theorem info_rset : (Tryz.prog.info? 81).map (fun i => (i.zero, i.size, i.bytes)) = some (some (.agg #[.int .i64 0, .int .u64 0]), 2, 16) := by kernel_rfl
abbrev RowRt (W : World) (base : Nat) (v : Value) (l : List SetT) : Prop := SetK.R 81 W base (fun _ => True) v l
def RHasE (w : World) (r : Int × List SetT) (e : Ending) (w' : World) : Prop := ∃ v : Value, e = .returned (.tuple #[.int .i64 r.1, v]) ∧ RowRt w' w.heap.size v r.2 ∧ Below w.heap.size w w'
theorem rowRt_lower {W : World} {base base' : Nat} {v : Value} {l : List SetT} (h : RowRt W base v l) (hb : base' ≤ base) : RowRt W base' v l := Kd.R_lower h hb
set_option maxRecDepth 100000 in
set_option maxHeartbeats 4000000 in
theorem rhas_bad (w : World) (b0 n : Nat) (v : Value) (d : Dev) (a k : Nat) (hd : d.Ok) (hl : d.B.length = 8 * n) (h : RowV w b0 v d n) (h1 : 1 ≤ k) (hak : a + k ≤ n) (hbad : BadH k (cut d.B (8 * a) (8 * k))) : Calls Tryz.prog 8 #[v, .agg #[.int .i64 a, .int .i64 k]] w (RHasE w (0, [])) := by
  have hn : n ≤ 8192 := by have := hd.max; omega
  obtain ⟨A, c, rfl⟩ := Kd.V_slice h
  have HRB := Aside0.mk (fun (W : World) (hW : Below w.heap.size w W) => r3bytes_calls (Kd.V_below h hW) hl hn)
  rw [wdL_length] at HRB ⊢
  have hbl : (cut d.B (8 * a) (8 * k)).length = 8 * k := cut_length (by omega)
  have HBY := Aside0.mk (show Bys (cut d.B (8 * a) (8 * k)) from cut_bys hd.bys _ _)
  have hsl := fun (W : World) => str_midR d.B (8 * a) (8 * k) (8 * (a : Int)) (8 * ((a : Int) + k)) (by omega) (by omega) (by omega) W
  obtain ⟨b, hb⟩ : ∃ b, b = cut d.B (8 * a) (8 * k) := ⟨_, rfl⟩
  rw [← hb] at hbad HBY hbl hsl
  have m0 := num_lt HBY.out (a := 0) (m := 2) (by omega)
  have s0 := num_lt HBY.out (a := 2) (m := 4) (by omega)
  obtain ⟨M, hM⟩ : ∃ M, M = numL (cut b 0 2) := ⟨_, rfl⟩
  obtain ⟨Q, hQ⟩ : ∃ Q, Q = numL (cut b 2 4) := ⟨_, rfl⟩
  rw [← hM] at m0
  rw [← hQ] at s0
  have EW1 := Aside0.mk (show IntKind.i64.wrap (8 * (a : Int)) = 8 * a from IntWalk.i64_in _ (by omega))
  have EW2 := Aside0.mk (show IntKind.i64.wrap ((a : Int) + k) = a + k from IntWalk.i64_in _ (by omega))
  have EW3 := Aside0.mk (show IntKind.i64.wrap (8 * ((a : Int) + k)) = 8 * (a + k) from IntWalk.i64_in _ (by omega))
  have e3 : IntKind.i64.wrap M = M := IntWalk.i64_in _ (by omega)
  have HGM := Aside0.mk (fun (W : World) => show Calls Tryz.prog 28 #[.string (strOfNums b), .int .i64 0, .int .i64 2] W (fun e w' => e = .returned (.tuple #[.int .u64 M, .bool true]) ∧ W = w') from by rw [hM]; exact rget_in W HBY.out (by omega) 0 2 0 rfl (.inl rfl) (by omega))
  have HGQ := Aside0.mk (fun (W : World) => show Calls Tryz.prog 28 #[.string (strOfNums b), .int .i64 2, .int .i64 4] W (fun e w' => e = .returned (.tuple #[.int .u64 Q, .bool true]) ∧ W = w') from by rw [hQ]; exact rget_in W HBY.out (by omega) 2 4 2 rfl (.inr (.inl rfl)) (by omega))
  have hb3 : M = 0 ∨ (1 ≤ M ∧ Q = 0) ∨ (1 ≤ M ∧ 1 ≤ Q ∧ ((k : Int) - 1) / 2 < M) := by
    simp only [BadH, manyB, seqB, ← hM, ← hQ] at hbad
    omega
  have HRM := Aside0.mk (fun (W : World) => rroom_calls W a k (by omega))
  obtain ⟨r, hr⟩ : ∃ r : Int, r = ((k : Int) - 1) / 2 := ⟨_, rfl⟩
  rw [← hr] at hb3 HRM
  obtain ⟨wa, hwa⟩ : ∃ wa, wa = w.alloc (.cells #[.int .i64 a, .int .i64 k] 25) := ⟨_, rfl⟩
  have HNB := Aside0.mk (show wa.heap[w.heap.size]? = some (.cells #[.int .i64 a, .int .i64 k] 25 (0, 0)) from by rw [hwa]; exact heap_alloc_new w _)
  have c0 := blk_cell HNB.out (i := 0) rfl
  have c1 := blk_cell HNB.out (i := 1) rfl
  have HBA := Aside0.mk (show Below w.heap.size w wa from by rw [hwa]; exact below_alloc (Below.refl _ _) _)
  clear h hd hl hbad hM hQ hb hr hbl h1
  rcases hb3 with rfl | ⟨z1, rfl⟩ | ⟨z1, z2, z3⟩
  all_goals
    go_enter Tryz.func8, Tryz.ntmps8
    go_wp2_with fail
    rw [← hwa]
    clear hwa
    refine start_ (n := 13) (S := fun w' => w'.cell? ⟨w.heap.size, 0, none⟩ = some (.int .i64 a) ∧ w'.cell? ⟨w.heap.size, 1, none⟩ = some (.int .i64 k)) (ds := []) #[false, false, false, false, false, false, false, false, false, false, false, false, false] (by kernel_rfl) rfl rfl ⟨c0, c1⟩ (fun hHeld => ?_)
    refine pure_ (i := 0) (N := some 18) (v := ?_) (a' := ?_) #[true, false, false, false, false, false, false, false, false, false, false, false, false] rfl rfl (by kernel_rfl) (fun _ _ _ h => h) (Or.inl ⟨by rfl, ?_⟩) ?_ ?_
    rotate_left
    · intro w'
      go_simp
      with_reducible rfl
    rotate_left
    · simp only [Act.put, List.setIfInBounds_toArray, List.set_cons_zero, List.set_cons_succ, i64_w, i32_w]
      rfl
    refine pure_ (i := 2) (N := some 20) (v := ?_) (a' := ?_) #[true, false, true, false, false, false, false, false, false, false, false, false, false] rfl rfl (by kernel_rfl) (fun _ _ _ h => h) (Or.inl ⟨by rfl, ?_⟩) ?_ ?_
    rotate_left
    · intro w'
      go_simp
      with_reducible rfl
    rotate_left
    · simp only [Act.put, List.setIfInBounds_toArray, List.set_cons_zero, List.set_cons_succ, i64_w, i32_w]
      rfl
    refine pure_ (i := 5) (N := some 23) (v := ?_) (a' := ?_) #[true, false, true, false, false, true, false, false, false, false, false, false, false] rfl rfl (by kernel_rfl) (fun _ _ _ h => h) (Or.inl ⟨by rfl, ?_⟩) ?_ ?_
    rotate_left
    · intro w'
      go_simp
      with_reducible rfl
    rotate_left
    · simp only [Act.put, List.setIfInBounds_toArray, List.set_cons_zero, List.set_cons_succ, i64_w, i32_w]
      rfl
    refine pure_ (i := 7) (N := some 25) (v := ?_) (a' := ?_) #[true, false, true, false, false, true, false, true, false, false, false, false, false] rfl rfl (by kernel_rfl) (fun _ _ _ h => h) (Or.inl ⟨by rfl, ?_⟩) ?_ ?_
    rotate_left
    · intro w'
      go_simp
      with_reducible rfl
    rotate_left
    · simp only [Act.put, List.setIfInBounds_toArray, List.set_cons_zero, List.set_cons_succ, i64_w, i32_w]
      rfl
    refine take_ (i := 3) (N := some 21) (v := ?_) (a' := ?_) #[true, false, true, true, false, true, false, true, false, false, false, false, false] rfl rfl (by kernel_rfl) (fun _ _ _ h => h) (Or.inl ⟨by rfl, ?_⟩) hHeld ?_ ?_
    rotate_left
    · rintro w' ⟨s0, s1⟩
      go_simp
      with_reducible rfl
    rotate_left
    · simp only [Act.put, List.setIfInBounds_toArray, List.set_cons_zero, List.set_cons_succ, i64_w, i32_w]
      rfl
    refine pure_ (i := 4) (N := some 22) (v := ?_) (a' := ?_) #[true, false, true, true, true, true, false, true, false, false, false, false, false] rfl rfl (by kernel_rfl) (fun _ _ _ h => h) (Or.inl ⟨by rfl, ?_⟩) ?_ ?_
    rotate_left
    · intro w'
      go_simp
      rw [EW1.out]
      try with_reducible rfl
    rotate_left
    · simp only [Act.put, List.setIfInBounds_toArray, List.set_cons_zero, List.set_cons_succ, i64_w, i32_w]
      rfl
    refine take_ (i := 6) (N := some 24) (v := ?_) (a' := ?_) #[true, false, true, true, true, true, true, true, false, false, false, false, false] rfl rfl (by kernel_rfl) (fun _ _ _ h => h) (Or.inl ⟨by rfl, ?_⟩) hHeld ?_ ?_
    rotate_left
    · rintro w' ⟨s0, s1⟩
      go_simp
      with_reducible rfl
    rotate_left
    · simp only [Act.put, List.setIfInBounds_toArray, List.set_cons_zero, List.set_cons_succ, i64_w, i32_w]
      rfl
    refine take_ (i := 8) (N := some 26) (v := ?_) (a' := ?_) #[true, false, true, true, true, true, true, true, true, false, false, false, false] rfl rfl (by kernel_rfl) (fun _ _ _ h => h) (Or.inl ⟨by rfl, ?_⟩) hHeld ?_ ?_
    rotate_left
    · rintro w' ⟨s0, s1⟩
      go_simp
      with_reducible rfl
    rotate_left
    · simp only [Act.put, List.setIfInBounds_toArray, List.set_cons_zero, List.set_cons_succ, i64_w, i32_w]
      rfl
    refine pure_ (i := 9) (N := some 27) (v := ?_) (a' := ?_) #[true, false, true, true, true, true, true, true, true, true, false, false, false] rfl rfl (by kernel_rfl) (fun _ _ _ h => h) (Or.inl ⟨by rfl, ?_⟩) ?_ ?_
    rotate_left
    · intro w'
      go_simp
      rw [EW2.out]
      try with_reducible rfl
    rotate_left
    · simp only [Act.put, List.setIfInBounds_toArray, List.set_cons_zero, List.set_cons_succ, i64_w, i32_w]
      rfl
    refine pure_ (i := 10) (N := some 28) (v := ?_) (a' := ?_) #[true, false, true, true, true, true, true, true, true, true, true, false, false] rfl rfl (by kernel_rfl) (fun _ _ _ h => h) (Or.inl ⟨by rfl, ?_⟩) ?_ ?_
    rotate_left
    · intro w'
      go_simp
      rw [EW3.out]
      try with_reducible rfl
    rotate_left
    · simp only [Act.put, List.setIfInBounds_toArray, List.set_cons_zero, List.set_cons_succ, i64_w, i32_w]
      rfl
    refine one_ (i := 1) (N := some 19) #[true, true, true, true, true, true, true, true, true, true, true, false, false] rfl rfl (by kernel_rfl) (by decide) (fun K hK => ?_)
    refine goes_ Tryz.func27 (by kernel_rfl) rfl #[.slice A n c] (by rfl) rfl rfl (by simp only [List.map_toArray, List.map_cons, List.map_nil]; rfl) ?_
    with_reducible refine (HRB.out wa.drew HBA.out.drew).mono ?_
    rintro e w5 ⟨rfl, hb5⟩
    refine ⟨_, rfl, ?_⟩
    have HB5 := Aside0.mk (bel_step HBA.out.drew hb5.below)
    have i0 := bel_cell hb5.below hHeld.1
    have i1 := bel_cell hb5.below hHeld.2
    clear hb5
    refine hK.out _ _ ⟨i0, i1⟩ (fun hHeld => ?_)
    clear hK K
    refine norm_ (a' := ?_) ?_ ?_
    rotate_left
    · show Act.put _ (some 19) _ = _
      simp only [Act.put, List.setIfInBounds_toArray, List.set_cons_zero, List.set_cons_succ, i64_w, i32_w]
      rfl
    refine pure_ (i := 11) (N := some 29) (v := ?_) (a' := ?_) #[true, true, true, true, true, true, true, true, true, true, true, true, false] rfl rfl (by kernel_rfl) (fun _ _ _ h => h) (Or.inl ⟨by rfl, ?_⟩) ?_ ?_
    rotate_left
    · intro w'
      go_simp
      with_reducible rfl
    rotate_left
    · simp only [Act.put, List.setIfInBounds_toArray, List.set_cons_zero, List.set_cons_succ, i64_w, i32_w]
      rfl
    refine pure_ (i := 12) (N := some 6) (v := ?_) (a' := ?_) #[true, true, true, true, true, true, true, true, true, true, true, true, true] rfl rfl (by kernel_rfl) (fun _ _ _ h => h) (Or.inl ⟨by rfl, ?_⟩) ?_ ?_
    rotate_left
    · intro w'
      go_simp
      with_reducible rfl
    rotate_left
    · simp only [Act.put, List.setIfInBounds_toArray, List.set_cons_zero, List.set_cons_succ, i64_w, i32_w]
      rfl
    refine done_ (by kernel_rfl) ?_
    go_wp2_with (first | (go_at_call 28; (first | ((with_reducible refine (HGM.out _).mono ?_); rintro e w2 ⟨rfl, rfl⟩) | ((with_reducible refine (HGQ.out _).mono ?_); rintro e w3 ⟨rfl, rfl⟩))) | (go_at_call 10; ((with_reducible refine (HRM.out _).mono ?_); rintro e w4 ⟨rfl, hb⟩; have HB6 := Aside0.mk (bel_step HB5.out hb); clear hb)))
    go_ret2
    first
      | exact ⟨_, rfl, Kd.R_nil _ _ _ _ _, HB6.out⟩
      | exact ⟨_, rfl, Kd.R_nil _ _ _ _ _, HB5.out⟩
set_option maxRecDepth 100000 in
set_option maxHeartbeats 8000000 in
theorem rhas_go (w : World) (b0 n : Nat) (v : Value) (d : Dev) (a k : Nat) (hd : d.Ok) (hl : d.B.length = 8 * n) (h : RowV w b0 v d n) (h1 : 1 ≤ k) (hak : a + k ≤ n) (hgood : ¬ BadH k (cut d.B (8 * a) (8 * k))) : Calls Tryz.prog 8 #[v, .agg #[.int .i64 a, .int .i64 k]] w (RHasE w (recB n a k (cut d.B (8 * a) (8 * k)))) := by
  have hn : n ≤ 8192 := by have := hd.max; omega
  obtain ⟨A, c, rfl⟩ := Kd.V_slice h
  have HRB := Aside0.mk (fun (W : World) (hW : Below w.heap.size w W) => r3bytes_calls (Kd.V_below h hW) hl hn)
  rw [wdL_length] at HRB ⊢
  have hbl : (cut d.B (8 * a) (8 * k)).length = 8 * k := cut_length (by omega)
  have HBY := Aside0.mk (show Bys (cut d.B (8 * a) (8 * k)) from cut_bys hd.bys _ _)
  have hsl := fun (W : World) => str_midR d.B (8 * a) (8 * k) (8 * (a : Int)) (8 * ((a : Int) + k)) (by omega) (by omega) (by omega) W
  obtain ⟨b, hb⟩ : ∃ b, b = cut d.B (8 * a) (8 * k) := ⟨_, rfl⟩
  rw [← hb] at hgood HBY hbl hsl ⊢
  have m0 := num_lt HBY.out (a := 0) (m := 2) (by omega)
  have s0 := num_lt HBY.out (a := 2) (m := 4) (by omega)
  obtain ⟨M, hM⟩ : ∃ M, M = manyB b := ⟨_, rfl⟩
  obtain ⟨Q, hQ⟩ : ∃ Q, Q = seqB b := ⟨_, rfl⟩
  rw [show numL (cut b 0 2) = M from hM.symm] at m0
  rw [show numL (cut b 2 4) = Q from hQ.symm] at s0
  obtain ⟨m, hmm⟩ : ∃ m : Nat, M = m := ⟨M.toNat, by omega⟩
  subst hmm
  have EW1 := Aside0.mk (show IntKind.i64.wrap (8 * (a : Int)) = 8 * a from IntWalk.i64_in _ (by omega))
  have EW2 := Aside0.mk (show IntKind.i64.wrap ((a : Int) + k) = a + k from IntWalk.i64_in _ (by omega))
  have EW3 := Aside0.mk (show IntKind.i64.wrap (8 * ((a : Int) + k)) = 8 * (a + k) from IntWalk.i64_in _ (by omega))
  have e3 : IntKind.i64.wrap (m : Int) = m := IntWalk.i64_in _ (by omega)
  have e3q : IntKind.i64.wrap Q = Q := IntWalk.i64_in _ (by omega)
  have e3n : IntKind.u64.wrap (n : Int) = n := u64_wrap_of (by omega) (by omega)
  have hb3 : 1 ≤ (m : Int) ∧ (m : Int) ≤ ((k : Int) - 1) / 2 ∧ 1 ≤ Q := by
    simp only [BadH, ← hM, ← hQ] at hgood
    omega
  have HGM := Aside0.mk (fun (W : World) => show Calls Tryz.prog 28 #[.string (strOfNums b), .int .i64 0, .int .i64 2] W (fun e w' => e = .returned (.tuple #[.int .u64 m, .bool true]) ∧ W = w') from by rw [hM]; exact rget_in W HBY.out (by omega) 0 2 0 rfl (.inl rfl) (by omega))
  have HGQ := Aside0.mk (fun (W : World) => show Calls Tryz.prog 28 #[.string (strOfNums b), .int .i64 2, .int .i64 4] W (fun e w' => e = .returned (.tuple #[.int .u64 Q, .bool true]) ∧ W = w') from by rw [hQ]; exact rget_in W HBY.out (by omega) 2 4 2 rfl (.inr (.inl rfl)) (by omega))
  have HGA := Aside0.mk (fun (j : Nat) (hj : 8 + 16 * j + 8 ≤ b.length) (W : World) (z : Int) (hz : z = 8 + 16 * j) => show Calls Tryz.prog 28 #[.string (strOfNums b), .int .i64 z, .int .i64 8] W (fun e w' => e = .returned (.tuple #[.int .u64 (atB b j), .bool true]) ∧ W = w') from rget_in W HBY.out (by omega) (8 + 16 * j) 8 z (by omega) (.inr (.inr rfl)) (by omega))
  have HGN := Aside0.mk (fun (j : Nat) (hj : 16 + 16 * j + 8 ≤ b.length) (W : World) (z : Int) (hz : z = 16 + 16 * j) => show Calls Tryz.prog 28 #[.string (strOfNums b), .int .i64 z, .int .i64 8] W (fun e w' => e = .returned (.tuple #[.int .u64 (nB b j), .bool true]) ∧ W = w') from rget_in W HBY.out (by omega) (16 + 16 * j) 8 z (by omega) (.inr (.inr rfl)) (by omega))
  have HRM := Aside0.mk (fun (W : World) => rroom_calls W a k (by omega))
  obtain ⟨r, hr⟩ : ∃ r : Int, r = ((k : Int) - 1) / 2 := ⟨_, rfl⟩
  rw [← hr] at hb3 HRM
  have hrk : 2 * r + 1 ≤ k := by omega
  obtain ⟨z1, z2, z3⟩ := hb3
  have d1 : decide (r < (m : Int)) = false := decide_eq_false (by omega)
  have d2 : ((m : Int) == 0) = false := by rw [beq_eq_false_iff_ne]; omega
  have d2n : (m == 0) = false := by rw [beq_eq_false_iff_ne]; omega
  have d3 : (Q == 0) = false := by rw [beq_eq_false_iff_ne]; omega
  have HGD := Aside0.mk hgood
  have hmn : (manyB b).toNat = m := by rw [← hM]; rfl
  have HMY := Aside0.mk (fun (W : World) (x y : Int) => rmay_calls W A n c a k x y hn (by omega))
  have HFL := Aside0.mk (fun (j : Nat) (hj : j < m) (hf : okB n a k (atB b j) = false) => recB_fail HGD.out (by rw [hmn]; exact hj) hf)
  have HAL := Aside0.mk (fun (hf : ∀ j, j < m → okB n a k (atB b j) = true) => show recB n a k b = if headL m Q (bodyL (setsB b m)) = b.take 8 then (Q, setsB b m) else (0, []) from by rw [recB_all HGD.out (by rw [hmn]; exact hf), hmn, ← hM, ← hQ])
  have HPS := Aside0.mk (fun (hf : ∀ j, j < m → okB n a k (atB b j) = true) => posB HBY.out (m := m) (by omega) hf)
  have HBL := Aside0.mk hbl
  have hb9 : b.length ≤ 65536 := by omega
  have hmb : 8 + 16 * m ≤ b.length := by omega
  have hst := fun (W : World) => str_toR b (8 + 16 * m) (8 + 16 * (m : Int)) (by omega) hmb W
  have HSM := Aside0.mk (fun (hd : List Int) (h8 : hd.length = 8) => rec_same HBY.out hmb h8)
  obtain ⟨R, hR⟩ : ∃ R, R = recB n a k b := ⟨_, rfl⟩
  rw [← hR] at HFL HAL ⊢
  obtain ⟨wa, hwa⟩ : ∃ wa, wa = w.alloc (.cells #[.int .i64 a, .int .i64 k] 25) := ⟨_, rfl⟩
  have HNB := Aside0.mk (show wa.heap[w.heap.size]? = some (.cells #[.int .i64 a, .int .i64 k] 25 (0, 0)) from by rw [hwa]; exact heap_alloc_new w _)
  have c0 := blk_cell HNB.out (i := 0) rfl
  have c1 := blk_cell HNB.out (i := 1) rfl
  have HBA := Aside0.mk (show Below w.heap.size w wa from by rw [hwa]; exact below_alloc (Below.refl _ _) _)
  clear h hd hl hgood hM hQ hb hr hbl h1 hmn hR
  go_enter Tryz.func8, Tryz.ntmps8
  go_wp2_with fail
  rw [← hwa]
  clear hwa
  refine start_ (n := 13) (S := fun w' => w'.cell? ⟨w.heap.size, 0, none⟩ = some (.int .i64 a) ∧ w'.cell? ⟨w.heap.size, 1, none⟩ = some (.int .i64 k)) (ds := []) #[false, false, false, false, false, false, false, false, false, false, false, false, false] (by kernel_rfl) rfl rfl ⟨c0, c1⟩ (fun hHeld => ?_)
  refine pure_ (i := 0) (N := some 18) (v := ?_) (a' := ?_) #[true, false, false, false, false, false, false, false, false, false, false, false, false] rfl rfl (by kernel_rfl) (fun _ _ _ h => h) (Or.inl ⟨by rfl, ?_⟩) ?_ ?_
  rotate_left
  · intro w'
    go_simp
    with_reducible rfl
  rotate_left
  · simp only [Act.put, List.setIfInBounds_toArray, List.set_cons_zero, List.set_cons_succ, i64_w, i32_w]
    rfl
  refine pure_ (i := 2) (N := some 20) (v := ?_) (a' := ?_) #[true, false, true, false, false, false, false, false, false, false, false, false, false] rfl rfl (by kernel_rfl) (fun _ _ _ h => h) (Or.inl ⟨by rfl, ?_⟩) ?_ ?_
  rotate_left
  · intro w'
    go_simp
    with_reducible rfl
  rotate_left
  · simp only [Act.put, List.setIfInBounds_toArray, List.set_cons_zero, List.set_cons_succ, i64_w, i32_w]
    rfl
  refine pure_ (i := 5) (N := some 23) (v := ?_) (a' := ?_) #[true, false, true, false, false, true, false, false, false, false, false, false, false] rfl rfl (by kernel_rfl) (fun _ _ _ h => h) (Or.inl ⟨by rfl, ?_⟩) ?_ ?_
  rotate_left
  · intro w'
    go_simp
    with_reducible rfl
  rotate_left
  · simp only [Act.put, List.setIfInBounds_toArray, List.set_cons_zero, List.set_cons_succ, i64_w, i32_w]
    rfl
  refine pure_ (i := 7) (N := some 25) (v := ?_) (a' := ?_) #[true, false, true, false, false, true, false, true, false, false, false, false, false] rfl rfl (by kernel_rfl) (fun _ _ _ h => h) (Or.inl ⟨by rfl, ?_⟩) ?_ ?_
  rotate_left
  · intro w'
    go_simp
    with_reducible rfl
  rotate_left
  · simp only [Act.put, List.setIfInBounds_toArray, List.set_cons_zero, List.set_cons_succ, i64_w, i32_w]
    rfl
  refine take_ (i := 3) (N := some 21) (v := ?_) (a' := ?_) #[true, false, true, true, false, true, false, true, false, false, false, false, false] rfl rfl (by kernel_rfl) (fun _ _ _ h => h) (Or.inl ⟨by rfl, ?_⟩) hHeld ?_ ?_
  rotate_left
  · rintro w' ⟨s0, s1⟩
    go_simp
    with_reducible rfl
  rotate_left
  · simp only [Act.put, List.setIfInBounds_toArray, List.set_cons_zero, List.set_cons_succ, i64_w, i32_w]
    rfl
  refine pure_ (i := 4) (N := some 22) (v := ?_) (a' := ?_) #[true, false, true, true, true, true, false, true, false, false, false, false, false] rfl rfl (by kernel_rfl) (fun _ _ _ h => h) (Or.inl ⟨by rfl, ?_⟩) ?_ ?_
  rotate_left
  · intro w'
    go_simp
    rw [EW1.out]
    try with_reducible rfl
  rotate_left
  · simp only [Act.put, List.setIfInBounds_toArray, List.set_cons_zero, List.set_cons_succ, i64_w, i32_w]
    rfl
  refine take_ (i := 6) (N := some 24) (v := ?_) (a' := ?_) #[true, false, true, true, true, true, true, true, false, false, false, false, false] rfl rfl (by kernel_rfl) (fun _ _ _ h => h) (Or.inl ⟨by rfl, ?_⟩) hHeld ?_ ?_
  rotate_left
  · rintro w' ⟨s0, s1⟩
    go_simp
    with_reducible rfl
  rotate_left
  · simp only [Act.put, List.setIfInBounds_toArray, List.set_cons_zero, List.set_cons_succ, i64_w, i32_w]
    rfl
  refine take_ (i := 8) (N := some 26) (v := ?_) (a' := ?_) #[true, false, true, true, true, true, true, true, true, false, false, false, false] rfl rfl (by kernel_rfl) (fun _ _ _ h => h) (Or.inl ⟨by rfl, ?_⟩) hHeld ?_ ?_
  rotate_left
  · rintro w' ⟨s0, s1⟩
    go_simp
    with_reducible rfl
  rotate_left
  · simp only [Act.put, List.setIfInBounds_toArray, List.set_cons_zero, List.set_cons_succ, i64_w, i32_w]
    rfl
  refine pure_ (i := 9) (N := some 27) (v := ?_) (a' := ?_) #[true, false, true, true, true, true, true, true, true, true, false, false, false] rfl rfl (by kernel_rfl) (fun _ _ _ h => h) (Or.inl ⟨by rfl, ?_⟩) ?_ ?_
  rotate_left
  · intro w'
    go_simp
    rw [EW2.out]
    try with_reducible rfl
  rotate_left
  · simp only [Act.put, List.setIfInBounds_toArray, List.set_cons_zero, List.set_cons_succ, i64_w, i32_w]
    rfl
  refine pure_ (i := 10) (N := some 28) (v := ?_) (a' := ?_) #[true, false, true, true, true, true, true, true, true, true, true, false, false] rfl rfl (by kernel_rfl) (fun _ _ _ h => h) (Or.inl ⟨by rfl, ?_⟩) ?_ ?_
  rotate_left
  · intro w'
    go_simp
    rw [EW3.out]
    try with_reducible rfl
  rotate_left
  · simp only [Act.put, List.setIfInBounds_toArray, List.set_cons_zero, List.set_cons_succ, i64_w, i32_w]
    rfl
  refine one_ (i := 1) (N := some 19) #[true, true, true, true, true, true, true, true, true, true, true, false, false] rfl rfl (by kernel_rfl) (by decide) (fun K hK => ?_)
  refine goes_ Tryz.func27 (by kernel_rfl) rfl #[.slice A n c] (by rfl) rfl rfl (by simp only [List.map_toArray, List.map_cons, List.map_nil]; rfl) ?_
  with_reducible refine (HRB.out wa.drew HBA.out.drew).mono ?_
  rintro e w5 ⟨rfl, hb5⟩
  refine ⟨_, rfl, ?_⟩
  have HB5 := Aside0.mk (bel_step HBA.out.drew hb5.below)
  have i0 := bel_cell hb5.below hHeld.1
  have i1 := bel_cell hb5.below hHeld.2
  clear hb5
  refine hK.out _ _ ⟨i0, i1⟩ (fun hHeld => ?_)
  clear hK K
  refine norm_ (a' := ?_) ?_ ?_
  rotate_left
  · show Act.put _ (some 19) _ = _
    simp only [Act.put, List.setIfInBounds_toArray, List.set_cons_zero, List.set_cons_succ, i64_w, i32_w]
    rfl
  refine pure_ (i := 11) (N := some 29) (v := ?_) (a' := ?_) #[true, true, true, true, true, true, true, true, true, true, true, true, false] rfl rfl (by kernel_rfl) (fun _ _ _ h => h) (Or.inl ⟨by rfl, ?_⟩) ?_ ?_
  rotate_left
  · intro w'
    go_simp
    with_reducible rfl
  rotate_left
  · simp only [Act.put, List.setIfInBounds_toArray, List.set_cons_zero, List.set_cons_succ, i64_w, i32_w]
    rfl
  refine pure_ (i := 12) (N := some 6) (v := ?_) (a' := ?_) #[true, true, true, true, true, true, true, true, true, true, true, true, true] rfl rfl (by kernel_rfl) (fun _ _ _ h => h) (Or.inl ⟨by rfl, ?_⟩) ?_ ?_
  rotate_left
  · intro w'
    go_simp
    with_reducible rfl
  rotate_left
  · simp only [Act.put, List.setIfInBounds_toArray, List.set_cons_zero, List.set_cons_succ, i64_w, i32_w]
    rfl
  refine done_ (by kernel_rfl) ?_
  go_wp2_with (first | (go_at_call 28; (first | ((with_reducible refine (HGM.out _).mono ?_); rintro e w2 ⟨rfl, rfl⟩) | ((with_reducible refine (HGQ.out _).mono ?_); rintro e w3 ⟨rfl, rfl⟩))) | (go_at_call 10; ((with_reducible refine (HRM.out _).mono ?_); rintro e w4 ⟨rfl, hb⟩; have HB6 := Aside0.mk (bel_step HB5.out hb); have Q0 := Aside0.mk (bel_cell hb i0); have Q1 := Aside0.mk (bel_cell hb i1); have HW6 := Aside0.mk (Below.refl w4.heap.size w4); clear hb)))
  go_loopw [11, 12] (fun u i wr => ∃ j : Nat, j ≤ m ∧ i = .int .i64 j ∧ Aside0 (RowRt wr w4.heap.size u (setsB b j)) ∧ Aside0 (∀ t, t < j → okB n a k (atB b t) = true) ∧ Aside0 (Below w4.heap.size w4 wr)) (fun _ i _ => (m - intOf i).toNat)
  case atStart => exact ⟨0, Nat.zero_le _, rfl, ⟨Kd.R_nil _ _ _ _ _⟩, ⟨fun t ht => absurd ht (Nat.not_lt_zero _)⟩, HW6⟩
  case round =>
    obtain ⟨j, hj, rfl, HV, HO, HB⟩ := hrel
    have HBW := Aside0.mk (bel_step HB6.out HB.out)
    by_cases hlt : j < m
    · have e4 : IntKind.i64.wrap (16 * (j : Int)) = 16 * j := IntWalk.i64_in _ (by omega)
      have e5 : IntKind.i64.wrap (8 + 16 * (j : Int)) = 8 + 16 * j := IntWalk.i64_in _ (by omega)
      have e6 : IntKind.i64.wrap (16 + 16 * (j : Int)) = 16 + 16 * j := IntWalk.i64_in _ (by omega)
      have HA := Aside0.mk (HGA.out j (by omega))
      have HN := Aside0.mk (HGN.out j (by omega))
      have x0 := (num_lt HBY.out (a := 8 + 16 * j) (m := 8) (by omega)).1
      have HFJ := Aside0.mk (HFL.out j hlt)
      have HSU := Aside0.mk (setsB_succ b j)
      have HSL := Aside0.mk (setsB_length b j)
      have q0 := bel_cell HB.out Q0.out
      have q1 := bel_cell HB.out Q1.out
      obtain ⟨x, hx⟩ : ∃ x, x = atB b j := ⟨_, rfl⟩
      obtain ⟨y, hy⟩ : ∃ y, y = nB b j := ⟨_, rfl⟩
      rw [show numL (cut b (8 + 16 * j) 8) = x from hx.symm] at x0
      rw [← hx] at HA HFJ HSU
      rw [← hy] at HN HSU
      have HX := Aside0.mk hx
      clear hx hy
      obtain ⟨L, hL⟩ : ∃ L, L = setsB b j := ⟨_, rfl⟩
      rw [← hL] at HV HSU HSL
      clear hL
      rcases (show (n : Int) ≤ x ∨ (x < n ∧ mayB n a k x = false) ∨ (x < n ∧ mayB n a k x = true) by cases mayB n a k x <;> simp <;> omega) with z4 | ⟨z4, z5⟩ | ⟨z4, z5⟩
      · have HRE := Aside0.mk (HFJ.out (by rw [okB, mayB, Bool.and_eq_false_iff]; exact .inr (decide_eq_false (by omega))))
        go_wp2_with (go_at_call 28; (first | ((with_reducible refine (HA.out _ _ (by omega)).mono ?_); rintro e w5 ⟨rfl, rfl⟩) | ((with_reducible refine (HN.out _ _ (by omega)).mono ?_); rintro e w6 ⟨rfl, rfl⟩)))
        go_ret2
        rw [HRE.out]
        exact ⟨_, rfl, Kd.R_nil _ _ _ _ _, HBW.out⟩
      · have HRE := Aside0.mk (HFJ.out (by rw [okB, z5, Bool.and_false]))
        have e9 : IntKind.i64.wrap x = x := IntWalk.i64_in _ (by omega)
        go_wp2_with (first | (go_at_call 28; (first | ((with_reducible refine (HA.out _ _ (by omega)).mono ?_); rintro e w5 ⟨rfl, rfl⟩) | ((with_reducible refine (HN.out _ _ (by omega)).mono ?_); rintro e w6 ⟨rfl, rfl⟩))) | (go_at_call 29; ((with_reducible refine (HMY.out _ x y).mono ?_); rw [z5]; rintro e w7 ⟨rfl, hb7⟩; have HB7 := Aside0.mk (bel_step HBW.out hb7); clear hb7)))
        go_ret2
        rw [HRE.out]
        exact ⟨_, rfl, Kd.R_nil _ _ _ _ _, HB7.out⟩
      · have HOK := Aside0.mk (show okB n a k x = true by rw [okB, z5, decide_eq_true (by omega)]; rfl)
        have e9 : IntKind.i64.wrap x = x := IntWalk.i64_in _ (by omega)
        go_wp2_with (first | (go_at_call 28; (first | ((with_reducible refine (HA.out _ _ (by omega)).mono ?_); rintro e w5 ⟨rfl, rfl⟩) | ((with_reducible refine (HN.out _ _ (by omega)).mono ?_); rintro e w6 ⟨rfl, rfl⟩))) | (go_at_call 29; ((with_reducible refine (HMY.out _ x y).mono ?_); rw [z5]; rintro e w7 ⟨rfl, hb7⟩; have HB7 := Aside0.mk (bel_step HB.out hb7); have HV7 := Aside0.mk (Kd.R_below HV.out hb7); clear hb7)) | ((with_reducible refine gate_bi (b := .append) (xs := #[.tmp 90, .tmp 95]) rfl ?_); go_must (refine Kd.R_append SetK (w0 := w4) w4.heap.size rfl (.tmp 90) (.tmp 95) 28 81 (.agg #[.int .i64 0, .int .u64 0]) 16 rfl Tryz.underlying28 info_rset rfl (by decide) (by omega) _ L (x, y) [.int .i64 x, .int .u64 y] (fun _ => True) (fun _ => False) rfl rfl rfl (fun _ hk => hk.elim) (fun _ _ => trivial) HV7.out HB7.out HB7.out.size (by have := HSL.out; omega) ?_); intro v8 w8 hr8 hb8 hg8 hat8; have HV8 := Aside0.mk hr8; have HB8 := Aside0.mk hb8; clear hr8 hb8 hg8 hat8))
        go_roundw
        case rel =>
          refine ⟨j + 1, by omega, by go_num, ⟨by rw [HSU.out]; exact HV8.out⟩, ⟨fun t ht => ?_⟩, HB8⟩
          rcases Nat.lt_or_ge t j with h | h
          · exact HO.out t h
          · rw [show t = j by omega, ← HX.out]; exact HOK.out
        case measure => simp [intOf]; omega
    · obtain rfl : j = m := by omega
      have HRE := Aside0.mk (HAL.out HO.out)
      have HPP := Aside0.mk (HPS.out HO.out)
      have HVL := Aside0.mk (setsB_length b j)
      have HS8 := Aside0.mk (HSM.out (headL j Q (bodyL (setsB b j))) (headL_length _ _ _))
      obtain ⟨L, hL⟩ : ∃ L, L = setsB b j := ⟨_, rfl⟩
      rw [← hL] at HRE HPP HVL HV HS8
      clear hL
      obtain ⟨A5, c5, rfl, _, hC5⟩ := flat_reads HV.out
      have HRC := Aside0.mk (rrecord_calls wr A5 c5 L Q hC5 HPP.out (by have := HVL.out; omega) (by omega) (by omega))
      have hlx : (headL (L.length : Int) Q (bodyL L) ++ bodyL L).length = 8 + 16 * j := by rw [List.length_append, headL_length, bodyL_length, HVL.out]
      rw [HVL.out] at HRC hlx
      have HXB := Aside0.mk (show Bys (headL (j : Int) Q (bodyL L) ++ bodyL L) from fun x hx => (List.mem_append.1 hx).elim (headL_bys _ _ _ x) (bodyL_bys _ x))
      obtain ⟨hh, hhh⟩ : ∃ hh, hh = headL (j : Int) Q (bodyL L) := ⟨_, rfl⟩
      rw [← hhh] at HRE HRC HS8 hlx HXB
      obtain ⟨X, hX⟩ : ∃ X, X = hh ++ bodyL L := ⟨_, rfl⟩
      rw [← hX] at HRC HS8 hlx HXB
      have hsz : (strOfNums X).size = 8 + 16 * j := by rw [strOfNums_size, hlx]
      clear hC5 hhh hX
      by_cases heq : X = b.take (8 + 16 * j)
      · have hne : ((strOfNums (b.take (8 + 16 * j))).toList == (strOfNums X).toList) = true := by rw [heq]; simp
        have HRE2 := Aside0.mk (show R = (Q, L) by rw [HRE.out, if_pos (HS8.out.1 heq)])
        clear heq
        go_wp2_with (go_at_call 30; (rw [HVL.out]; (with_reducible refine HRC.out.mono ?_); rintro e w9 ⟨rfl, hb9⟩; have HB9 := Aside0.mk (bel_step HBW.out hb9); have HV9 := Aside0.mk (Kd.R_below HV.out hb9); clear hb9))
        go_ret2
        rw [HRE2.out]
        have hv9 := HV9.out
        rw [HVL.out] at hv9
        exact ⟨_, rfl, rowRt_lower hv9 HB6.out.size, HB9.out⟩
      · have hne : ((strOfNums (b.take (8 + 16 * j))).toList == (strOfNums X).toList) = false := by
          rw [beq_eq_false_iff_ne]
          intro e
          exact heq (str_inj (fun x hx => HBY.out x (List.mem_of_mem_take hx)) HXB.out (str_eqW e)).symm
        have HRE2 := Aside0.mk (show R = (0, []) by rw [HRE.out, if_neg (fun h => heq (HS8.out.2 h))])
        clear heq
        go_wp2_with (go_at_call 30; (rw [HVL.out]; (with_reducible refine HRC.out.mono ?_); rintro e w9 ⟨rfl, hb9⟩; have HB9 := Aside0.mk (bel_step HBW.out hb9); clear hb9))
        go_ret2
        rw [HRE2.out]
        exact ⟨_, rfl, Kd.R_nil _ _ _ _ _, HB9.out⟩
theorem rhas_calls (w : World) (b0 n : Nat) (v : Value) (d : Dev) (a k : Nat) (hd : d.Ok) (hl : d.B.length = 8 * n) (h : RowV w b0 v d n) (h1 : 1 ≤ k) (hak : a + k ≤ n) : Calls Tryz.prog 8 #[v, .agg #[.int .i64 a, .int .i64 k]] w (RHasE w (recD d a k)) := by
  rw [recD, hl, Nat.mul_div_cancel_left _ (by decide)]
  by_cases hb : BadH k (cut d.B (8 * a) (8 * k))
  · rw [recB, if_pos hb]
    exact rhas_bad w b0 n v d a k hd hl h h1 hak hb
  · exact rhas_go w b0 n v d a k hd hl h h1 hak hb
end Go.Proofs.YtbfogcckbhkciaaGreat.Hand
namespace Go.Proofs.YtbfogcckbhkciaaGreat.Hand
set_option linter.unusedVariables false
set_option linter.unusedSimpArgs false
open Go.RowKit Go.Maps Go.Proofs.YtbfogcckbhkciaaGreatW.PrintWords Go.Proofs.YtbfogcckbhkciaaGreatW.PrintLast Go.Proofs.YtbfogcckbhkciaaGreat.PHandRP
set_option linter.unusedVariables false
set_option linter.unusedSimpArgs false
theorem rflushed_calls (w : World) (a k : Nat) (ha : a ≤ 8192) (hk : k ≤ 8192) :
    Calls Tryz.prog 36 #[.int .i64 a, .int .i64 k] w fun e w' => e = .returned (.agg #[.int .i64 2, .int .i64 (8 * (a : Int)), .int .i64 (8 * (k : Int)), .slice none 0 0, .slice none 0 0]) ∧ Below w.heap.size w w' := by
  have e1 : IntKind.i64.wrap (8 * (a : Int)) = 8 * a := IntWalk.i64_in _ (by omega)
  have e2 : IntKind.i64.wrap (8 * (k : Int)) = 8 * k := IntWalk.i64_in _ (by omega)
  go_enter Tryz.func36, Tryz.ntmps36
  go_wp2
  refine bodyPost_ret (results_cell_row rfl _ _ w.heap.size _ _ _ _ rfl (heap_alloc_new w _) Tryz.underlying54 rfl (by kernel_rfl)) rfl ?_
  exact ⟨rfl, below_alloc (Below.refl _ _) _⟩
set_option maxRecDepth 100000 in
theorem rputop2_calls (w : World) (a : Nat) (ha : a ≤ 8192) (l : List Int) (hb : Bys l) (hl : l.length = 8) :
    Calls Tryz.prog 35 #[.int .i64 a, .string (strOfNums l)] w fun e w' => ∃ g c, e = .returned (.agg #[.int .i64 0, .int .i64 (8 * (a : Int)), .int .i64 0, .slice (some ⟨g, 0, none⟩) 8 c, .slice none 0 0]) ∧ 8 ≤ c ∧ ReadsInt w' .u8 (some ⟨g, 0, none⟩) 8 l ∧ w.heap.size ≤ g ∧ Below w.heap.size w w' := by
  have e1 : IntKind.i64.wrap (8 * (a : Int)) = 8 * a := IntWalk.i64_in _ (by omega)
  have kb := fun W => print_bytes (P := Tryz.prog) 9 22 5 Tryz.underlying9 Tryz.underlying22 Tryz.underlying5 (strOfNums l) W
  have hsz : (strOfNums l).size = 8 := by rw [strOfNums_size, hl]
  have HRD := Aside0.mk (fun (W : World) => bytes_reads W 5 (strOfNums l) (by rw [hsz]; omega))
  have HBL := Aside0.mk (fun (W : World) => bytes_below (Below.refl W.heap.size W) (Nat.le_refl _) 5 (strOfNums l))
  have HCP := Aside0.mk (fun (W : World) => grownCap_ge W (strOfNums l).size 0 5)
  rw [hsz] at kb HRD HCP
  rw [bytes_str hb] at HRD
  obtain ⟨wz, hwz⟩ : ∃ wz, wz = w.alloc (.cells #[.int .i64 0, .int .i64 0, .int .i64 0, .slice none 0 0, .slice none 0 0] 54) := ⟨_, rfl⟩
  obtain ⟨wb, hwb⟩ : ∃ wb, wb = Lib.bytesWorld wz 5 (strOfNums l) := ⟨_, rfl⟩
  have hz : wb.heap[w.heap.size]? = some (.cells #[.int .i64 0, .int .i64 0, .int .i64 0, .slice none 0 0, .slice none 0 0] 54 (0, 0)) := by
    rw [hwb, Lib.bytesWorld_at_old _ _ _ _ (by rw [hwz, World.size_alloc]; omega), hwz]
    exact heap_alloc_new w _
  have HZ := Aside0.mk hz
  have z0 := blk_cell hz (i := 0) rfl
  have z1 := blk_cell hz (i := 1) rfl
  have z2 := blk_cell hz (i := 2) rfl
  have z3 := blk_cell hz (i := 3) rfl
  have z4 := blk_cell hz (i := 4) rfl
  have f0 := blk_free hz 0
  have f1 := blk_free hz 1
  have f2 := blk_free hz 2
  have f3 := blk_free hz 3
  have f4 := blk_free hz 4
  have HR := Aside0.mk (show ReadsInt wb .u8 (some ⟨w.heap.size + 1, 0, none⟩) 8 l from by
    have := HRD.out wz
    rw [← hwb, hwz, World.size_alloc] at this
    exact this)
  have HB := Aside0.mk (show Below w.heap.size w wb from by
    have h1 := HBL.out wz
    rw [← hwb] at h1
    exact bel_step (by rw [hwz]; exact below_alloc (Below.refl _ _) _) h1)
  have HC := Aside0.mk (HCP.out wz)
  have kb1 := kb wz
  rw [← hwb] at kb1
  rw [hwz, World.size_alloc] at kb1
  clear kb hz hwb
  go_enter Tryz.func35, Tryz.ntmps35
  go_wp2
  refine bodyPost_ret (results_cell_row rfl _ _ w.heap.size _ _ _ _ rfl (blk_set (blk_set (blk_set (blk_set (blk_set HZ.out 0 _) 1 _) 2 _) 3 _) 4 _) Tryz.underlying54 rfl (by kernel_rfl)) rfl ?_
  have hc := HC.out
  rw [hwz] at hc
  refine ⟨w.heap.size + 1, _, rfl, hc, ?_, Nat.le_succ _, ?_⟩
  · exact reads_frA HR.out ((((((Fr.refl (fun b => b = w.heap.size) wb).setCell (p := ⟨w.heap.size, 0, none⟩) (.inl rfl) _).setCell (p := ⟨w.heap.size, 1, none⟩) (.inl rfl) _).setCell (p := ⟨w.heap.size, 2, none⟩) (.inl rfl) _).setCell (p := ⟨w.heap.size, 3, none⟩) (.inl rfl) _).setCell (p := ⟨w.heap.size, 4, none⟩) (.inl rfl) _) (fun _ ad e h => by obtain rfl := Option.some.inj e; have h1 : w.heap.size + 1 = w.heap.size := h; omega)
  · exact ((((HB.out.setCell (p := ⟨w.heap.size, 0, none⟩) (Nat.le_refl _) _).setCell (p := ⟨w.heap.size, 1, none⟩) (Nat.le_refl _) _).setCell (p := ⟨w.heap.size, 2, none⟩) (Nat.le_refl _) _).setCell (p := ⟨w.heap.size, 3, none⟩) (Nat.le_refl _) _).setCell (p := ⟨w.heap.size, 4, none⟩) (Nat.le_refl _) _
section
variable {w : World} {b n : Nat} {v : Value} {d : Dev}
end
end Go.Proofs.YtbfogcckbhkciaaGreat.Hand
namespace Go.Proofs.YtbfogcckbhkciaaGreat.Hand
set_option linter.unusedVariables false
set_option linter.unusedSimpArgs false
open Go.RowKit Go.Maps Go.Proofs.YtbfogcckbhkciaaGreatW.PrintWords Go.Proofs.YtbfogcckbhkciaaGreatW.PrintLast Go.Proofs.YtbfogcckbhkciaaGreatW.PrintMore Go.Proofs.YtbfogcckbhkciaaGreat.PHandRP
set_option linter.unusedVariables false
set_option linter.unusedSimpArgs false
def TS (base : Nat) (sv : Value) (b : Nat) : Prop := base ≤ b ∧ some b ≠ sv.ownBlock
structure OpOk (w : World) (T : Nat → Prop) (o : OpP) (m : StepM) : Prop where
  wf : WfPo w o
  ck : o.ks.length ≤ o.c2
  bk : 0 < o.bs.length → ∀ ad, o.A1 = some ad → T ad.block
  kk : o.ks = []
  st : ∀ d, stepD d o = d.step m
  z1 : o.z ≠ 1
theorem reads_same {q : IntKind} {w w1 : World} {A : Option Addr} {n : Nat} {l : List Int} (h : ReadsInt w q A n l) (hm : 0 < n → ∀ ad, A = some ad → w1.heap[ad.block]? = w.heap[ad.block]?) : ReadsInt w1 q A n l := by
  refine ⟨h.1, h.2.1, fun h0 => ?_⟩
  obtain ⟨ad, e, hx⟩ := h.2.2 h0
  refine ⟨ad, e, fun j hj => ?_⟩
  have hb : (ad.add j).block = ad.block := by unfold Addr.add; split <;> rfl
  rw [← hx j hj]
  simp only [World.cell?, hb, hm h0 ad e]
theorem reads_lt {q : IntKind} {w : World} {A : Option Addr} {n : Nat} {l : List Int} (h : ReadsInt w q A n l) (h0 : 0 < n) {ad : Addr} (e : A = some ad) : ad.block < w.heap.size := by
  obtain ⟨ad', e', hx⟩ := h.2.2 h0
  rw [e] at e'
  obtain rfl := Option.some.inj e'
  have := World.block_lt_of_cell? _ _ (hx 0 h0)
  have hb : (ad.add 0).block = ad.block := by unfold Addr.add; split <;> rfl
  rwa [hb] at this
theorem OpOk.go {w w1 : World} {T T' : Nat → Prop} {o : OpP} {m : StepM} (h : OpOk w T o m) (hm : ∀ k, k < w.heap.size → T k → w1.heap[k]? = w.heap[k]? ∧ T' k) : OpOk w1 T' o m := by
  refine ⟨⟨reads_same h.wf.rb (fun h0 ad e => (hm _ (reads_lt h.wf.rb h0 e) (h.bk h0 ad e)).1), h.wf.by_, h.wf.cb, ?_, h.wf.hz, h.wf.ha, h.wf.hl⟩, h.ck, fun h0 ad e => (hm _ (reads_lt h.wf.rb h0 e) (h.bk h0 ad e)).2, h.kk, h.st, h.z1⟩
  have := h.wf.rk
  rw [h.kk] at this ⊢
  exact ⟨this.1, this.2.1, fun h0 => absurd h0 (by simp)⟩
def AllO (w : World) (T : Nat → Prop) : List OpP → List StepM → Prop
  | [], [] => True
  | o :: os, m :: ms => OpOk w T o m ∧ AllO w T os ms
  | _, _ => False
theorem AllO.go {w w1 : World} {T T' : Nat → Prop} (hm : ∀ k, k < w.heap.size → T k → w1.heap[k]? = w.heap[k]? ∧ T' k) : ∀ {os : List OpP} {ms : List StepM}, AllO w T os ms → AllO w1 T' os ms
  | [], [], _ => trivial
  | o :: os, m :: ms, h => ⟨h.1.go hm, AllO.go hm h.2⟩
theorem AllO.app {w : World} {T : Nat → Prop} {os' : List OpP} {ms' : List StepM} (h2 : AllO w T os' ms') : ∀ {os : List OpP} {ms : List StepM}, AllO w T os ms → AllO w T (os ++ os') (ms ++ ms')
  | [], [], _ => h2
  | o :: os, m :: ms, h => ⟨h.1, AllO.app h2 h.2⟩
theorem AllO.len {w : World} {T : Nat → Prop} : ∀ {os : List OpP} {ms : List StepM}, AllO w T os ms → os.length = ms.length
  | [], [], _ => rfl
  | o :: os, m :: ms, h => congrArg (· + 1) (AllO.len h.2)
theorem AllO.get {w : World} {T : Nat → Prop} : ∀ {os : List OpP} {ms : List StepM} {i : Nat} {m : StepM}, AllO w T os ms → ms[i]? = some m → ∃ o, os[i]? = some o ∧ OpOk w T o m
  | [], [], i, m, _, h => by simp at h
  | o :: os, m' :: ms, 0, m, ha, h => by
    obtain rfl : m' = m := by simpa using h
    exact ⟨o, rfl, ha.1⟩
  | o :: os, m' :: ms, i + 1, m, ha, h => by
    obtain ⟨x, hx, ho⟩ := AllO.get (i := i) ha.2 (by simpa using h)
    exact ⟨x, by simpa using hx, ho⟩
theorem op_wr (w : World) (T : Nat → Prop) (a : Nat) (ha : a ≤ 200000) (z : Int) (hz : z = a) (g c : Nat) (l : List Int) (hr : ReadsInt w .u8 (some ⟨g, 0, none⟩) l.length l) (hb : Bys l) (hc : l.length ≤ c) (hg : T g) : OpOk w T ⟨0, z, 0, some ⟨g, 0, none⟩, c, l, none, 0, []⟩ (.wr a l) := by
  subst hz
  refine ⟨⟨hr, hb, hc, ⟨rfl, by simp, fun h => absurd h (by simp)⟩, by simp, ⟨by show _ ≤ (a : Int); omega, by show (a : Int) ≤ _; omega⟩, by simp⟩, Nat.le_refl _, fun _ ad e => by obtain rfl := Option.some.inj e; exact hg, rfl, fun d => ?_, by simp⟩
  simp only [stepD, Dev.step]
  rw [if_pos trivial]
  by_cases h : a + l.length ≤ d.B.length
  · have e : insE d.B.length (a : Int) (l.length : Int) = 0 := by rw [insE, if_neg (by omega), if_neg (by omega)]
    rw [if_pos h, if_pos e, Int.toNat_natCast]
  · have e : insE d.B.length (a : Int) (l.length : Int) ≠ 0 := by rw [insE, if_neg (by omega), if_pos (by omega)]; decide
    rw [if_neg h, if_neg e]
theorem op_fl (w : World) (T : Nat → Prop) (a m : Nat) (ha : a ≤ 200000) (hm : m ≤ 200000) (za zm : Int) (h1 : za = a) (h2 : zm = m) : OpOk w T ⟨2, za, zm, none, 0, [], none, 0, []⟩ (.fl a m) := by
  subst h1 h2
  refine ⟨⟨⟨rfl, by simp, fun h => absurd h (by simp)⟩, fun x hx => by simp at hx, Nat.le_refl _, ⟨rfl, by simp, fun h => absurd h (by simp)⟩, by simp, ⟨by show _ ≤ (a : Int); omega, by show (a : Int) ≤ _; omega⟩, ⟨by show _ ≤ (m : Int); omega, by show (m : Int) ≤ _; omega⟩⟩, Nat.le_refl _, fun h => absurd h (by simp), rfl, fun d => ?_, by simp⟩
  simp only [stepD, Dev.step]
  rw [if_neg (by decide), if_pos trivial]
  by_cases h : a + m ≤ d.B.length
  · have e : insE d.B.length (a : Int) (m : Int) = 0 := by rw [insE, if_neg (by omega), if_neg (by omega)]
    rw [if_pos h, if_pos e, Int.toNat_natCast, Int.toNat_natCast]
  · have e : insE d.B.length (a : Int) (m : Int) ≠ 0 := by rw [insE, if_neg (by omega), if_pos (by omega)]; decide
    rw [if_neg h, if_neg e]
theorem op_fe (w : World) (T : Nat → Prop) : OpOk w T ⟨3, 0, 0, none, 0, [], none, 0, []⟩ .fe := by
  refine ⟨⟨⟨rfl, by simp, fun h => absurd h (by simp)⟩, fun x hx => by simp at hx, Nat.le_refl _, ⟨rfl, by simp, fun h => absurd h (by simp)⟩, by simp, by simp, by simp⟩, Nat.le_refl _, fun h => absurd h (by simp), rfl, fun d => ?_, by simp⟩
  simp [stepD, Dev.step]
theorem AllO.one {w : World} {T : Nat → Prop} {o : OpP} {m : StepM} (h : OpOk w T o m) : AllO w T [o] [m] := ⟨h, trivial⟩
abbrev RowPo (w : World) (b : Nat) (v : Value) (os : List OpP) : Prop := PoK.R 54 w b (fun _ => True) v os
theorem info_op : (Tryz.prog.info? 54).map (fun i => (i.zero, i.size, i.bytes)) = some (some (.agg #[.int .i64 0, .int .i64 0, .int .i64 0, .slice none 0 0, .slice none 0 0]), 5, 72) := by kernel_rfl
theorem add_ops {wr W3 w6 : World} {base : Nat} {u v' : Value} {os os' : List OpP} {ms ms' : List StepM} (ha : AllO wr (TS base u) os ms) (hW : Below wr.heap.size wr W3) (hx : AllO W3 (TS base u) os' ms')
    (hg : W3.grownBy w6 u.ownBlock) (hat : v'.ownBlock = u.ownBlock ∨ ∃ b, v'.ownBlock = some b ∧ W3.heap.size ≤ b) : AllO w6 (TS base v') (os ++ os') (ms ++ ms') := by
  have h1 : AllO W3 (TS base u) os ms := ha.go (fun k hk ht => ⟨hW.block k hk, ht⟩)
  refine (AllO.app hx h1).go (fun k hk ht => ⟨hg.block k hk (fun e => ht.2 e), ht.1, ?_⟩)
  rcases hat with e | ⟨c, e, hc⟩
  · rw [e]; exact ht.2
  · rw [e]
    intro e2
    have := Option.some.inj e2
    omega
theorem po_lit (W : World) (os : List OpP) (cs : Array Value) (hcs : cs.toList = os.flatMap encPo) (hl : os.length ≤ 100) : PoK.C (W.alloc (.cells cs 54)) (some ⟨W.heap.size, 0, none⟩) os.length os := by
  have hsz : cs.size = os.length * 5 := by
    rw [← Array.length_toList, hcs]
    clear hcs hl
    induction os with
    | nil => rfl
    | cons o os ih =>
      rw [List.flatMap_cons, List.length_append, ih, List.length_cons, show (encPo o).length = 5 from rfl]
      omega
  have h := World.ownsRow_lit (base := W.heap.size) (e := 54) (size := 5) W cs os.length (Nat.le_refl _) (by unfold maxLen; omega) hsz
  rw [hcs] at h
  obtain ⟨A, c, e, _, hC⟩ := Kd.R_reads (d := PoK) (e := 54) (ok := fun _ => True) (R_flat.2 ⟨fun _ _ => trivial, h⟩)
  injection e with e1 _ _
  rw [e1]
  exact hC
theorem po_row {w : World} {base : Nat} {v : Value} {os : List OpP} (h : RowPo w base v os) (h0 : 0 < os.length) : ∃ g o c, v = .slice (some ⟨g, o, none⟩) os.length c ∧ base ≤ g ∧ ∀ k x, os[k]? = some x → ∀ i, i < 5 → w.cell? ⟨g, o + k * 5 + i, none⟩ = (encPo x)[i]? := by
  obtain ⟨A, c, e, _, hC⟩ := Kd.R_reads h
  have hx : os[0]? = some (os[0]'h0) := List.getElem?_eq_getElem _
  obtain ⟨g, o, hA, _⟩ := C_at hC (by decide) hx
  subst hA
  refine ⟨g, o, c, e, ?_, fun k x hk => ?_⟩
  · exact ((Kd.R_bound h).1 g (by rw [e]; rfl)).2.1
  · obtain ⟨g', o', hA', h'⟩ := C_at hC (by decide) hk
    injection hA' with hA'
    injection hA' with e1 e2 _
    subst e1 e2
    exact h'
theorem row_lt {w : World} {base : Nat} {v : Value} {os : List OpP} (h : RowPo w base v os) {k : Nat} (hk : v.ownBlock = some k) : k < w.heap.size := (Kd.R_bound h).1 k hk |>.2.2.1
structure HasO (w W : World) (v : Value) (os : List OpP) (ms : List StepM) : Prop where
  row : RowPo W w.heap.size v os
  all : AllO W (TS w.heap.size v) os ms
  bel : Below w.heap.size w W
theorem HasO.move {w W W1 : World} {v : Value} {os : List OpP} {ms : List StepM} (h : HasO w W v os ms) (hb : Below W.heap.size W W1) : HasO w W1 v os ms :=
  ⟨Kd.R_below h.row hb, h.all.go (fun k hk ht => ⟨hb.block k hk, ht⟩), bel_step h.bel hb⟩
theorem HasO.ts {w W : World} {v : Value} {os : List OpP} {ms : List StepM} (h : HasO w W v os ms) {k : Nat} (hk : W.heap.size ≤ k) : TS w.heap.size v k :=
  ⟨Nat.le_trans h.bel.size hk, fun e => by have := row_lt h.row e.symm; omega⟩
section
variable {ops : Array Oper} {o : Oper} {a : Act} {Q : Exit → Act → World → Prop} {Kc : Act → World → Prop}
theorem appO_step {w W : World} (hw : Region.wanted o (yielded ops a.tmps) = true) (s x : Operand) (ho : o.op = .call { callee := .builtin .append, args := #[s, x], argTypes := #[23, 23] }) (v : Value) (os ys : List OpP) (ms ns : List StepM) (A : Option Addr) (m c : Nat)
    (hm : ys.length = m) (hs : a.eval s = v) (hx : a.eval x = .slice A m c) (H : HasO w W v os ms) (hr : PoK.C W A ys.length ys) (hy : AllO W (TS w.heap.size v) ys ns) (hl : os.length + ys.length ≤ 100000)
    (h : ∀ v1 w1, HasO w w1 v1 (os ++ ys) (ms ++ ns) → Kc (a.put o.dst v1) w1) : if Region.wanted o (yielded ops a.tmps) = true then Oper.wp Tryz.prog o a W Kc Q else Kc (a.put o.dst undef) W := by
  subst hm
  refine Kd.R_append_rows_step PoK (w0 := w) w.heap.size hw s x 23 54 (.agg #[.int .i64 0, .int .i64 0, .int .i64 0, .slice none 0 0, .slice none 0 0]) 72 ho Tryz.underlying23 info_op rfl (by decide) (by decide) v os ys A ys.length c (fun _ => True) (fun _ => False) hs hx H.row hr (fun _ _ h => h) (fun _ hk => hk.elim) (fun _ _ => trivial) H.bel H.bel.size (by omega) ?_
  intro v1 w1 hr1 hb1 hg hat
  exact h v1 w1 ⟨hr1, add_ops H.all (Below.refl _ _) hy hg hat, hb1⟩
theorem appO_list {w W : World} {rest : List Oper} (hgd : o.guard = none) (s x : Operand) (ho : o.op = .call { callee := .builtin .append, args := #[s, x], argTypes := #[23, 23] }) (v : Value) (os ys : List OpP) (ms ns : List StepM) (A : Option Addr) (m c : Nat)
    (hm : ys.length = m) (hs : a.eval s = v) (hx : a.eval x = .slice A m c) (H : HasO w W v os ms) (hr : PoK.C W A ys.length ys) (hy : AllO W (TS w.heap.size v) ys ns) (hl : os.length + ys.length ≤ 100000)
    (h : ∀ v1 w1, HasO w w1 v1 (os ++ ys) (ms ++ ns) → wpList Tryz.prog ops Q rest (a.put o.dst v1) w1) : wpList Tryz.prog ops Q (o :: rest) a W := by
  subst hm
  refine Kd.R_append_rows PoK (w0 := w) w.heap.size hgd s x 23 54 (.agg #[.int .i64 0, .int .i64 0, .int .i64 0, .slice none 0 0, .slice none 0 0]) 72 ho Tryz.underlying23 info_op rfl (by decide) (by decide) v os ys A ys.length c (fun _ => True) (fun _ => False) hs hx H.row hr (fun _ _ h => h) (fun _ hk => hk.elim) (fun _ _ => trivial) H.bel H.bel.size (by omega) ?_
  intro v1 w1 hr1 hb1 hg hat
  exact h v1 w1 ⟨hr1, add_ops H.all (Below.refl _ _) hy hg hat, hb1⟩
end
end Go.Proofs.YtbfogcckbhkciaaGreat.Hand
namespace Go.Proofs.YtbfogcckbhkciaaGreat.Hand
set_option linter.unusedVariables false
set_option linter.unusedSimpArgs false
open Go.RowKit Go.Maps Go.Proofs.YtbfogcckbhkciaaGreatW.PrintWords Go.Proofs.YtbfogcckbhkciaaGreatW.PrintLast Go.Proofs.YtbfogcckbhkciaaGreatW.PrintMore Go.Proofs.YtbfogcckbhkciaaGreat.PHandRP
set_option linter.unusedVariables false
set_option linter.unusedSimpArgs false
set_option maxRecDepth 100000 in
theorem rsteps_none (w : World) (n a k nx : Nat) (A : Option Addr) (c : Nat) (A5 : Option Addr) (c5 : Nat) (sets : List SetT) (hn : n ≤ 8192) (h1 : 1 ≤ k) (hak : a + k ≤ n) (hs : SetK.C w A5 sets.length sets) (hs0 : sets = []) : Calls Tryz.prog 14 #[.slice A n c, .agg #[.int .i64 a, .int .i64 k], .int .i64 nx, .slice A5 sets.length c5] w fun e w' => e = .returned (.tuple #[.slice none 0 0, .int .i64 1]) ∧ Below w.heap.size w w' := by
  subst hs0
  clear hs
  go_enter Tryz.func14, Tryz.ntmps14
  go_wp2
  go_ret2
  exact ⟨rfl, below_alloc (Below.refl _ _) _⟩
set_option maxRecDepth 100000 in
set_option maxHeartbeats 4000000 in
theorem rsteps_may (w : World) (n a k nx : Nat) (A : Option Addr) (c : Nat) (A5 : Option Addr) (c5 : Nat) (sets : List SetT) (hn : n ≤ 8192) (h1 : 1 ≤ k) (hak : a + k ≤ n) (hs : SetK.C w A5 sets.length sets) (hs0 : 0 < sets.length) (hb : (sets.all fun s => mayB n a k s.1) = false) : Calls Tryz.prog 14 #[.slice A n c, .agg #[.int .i64 a, .int .i64 k], .int .i64 nx, .slice A5 sets.length c5] w fun e w' => e = .returned (.tuple #[.slice none 0 0, .int .i64 1]) ∧ Below w.heap.size w w' := by
  (obtain ⟨r, hr⟩ : ∃ r : Nat, r = (k - 1) / 2 := ⟨_, rfl⟩; have HC := Aside0.mk hs; have HRM := Aside0.mk (fun (W : World) => show Calls Tryz.prog 10 #[.agg #[.int .i64 a, .int .i64 k]] W (fun e w' => e = .returned (.int .i64 (r : Nat)) ∧ Below W.heap.size W w') from by have := rroom_calls W a k ⟨by omega, by omega⟩; rw [show ((k : Int) - 1) / 2 = (r : Nat) by omega] at this; exact this); have HMY := Aside0.mk (fun (W : World) (x y : Int) => rmay_calls W A n c a k x y hn (by omega)); have hsl := hs.2.1; obtain ⟨wa, hwa⟩ : ∃ wa, wa = w.alloc (.cells #[.int .i64 a, .int .i64 k] 25) := ⟨_, rfl⟩; have C0 := Aside0.mk (show wa.cell? ⟨w.heap.size, 0, none⟩ = some (.int .i64 a) from by rw [hwa]; exact blk_cell (heap_alloc_new w _) (i := 0) rfl); have C1 := Aside0.mk (show wa.cell? ⟨w.heap.size, 1, none⟩ = some (.int .i64 k) from by rw [hwa]; exact blk_cell (heap_alloc_new w _) (i := 1) rfl); have HBA := Aside0.mk (show Below w.heap.size w wa from by rw [hwa]; exact below_alloc (Below.refl _ _) _))
  have HBAD := Aside0.mk hb
  clear hs hb
  go_enter Tryz.func14, Tryz.ntmps14
  go_wp2
  rw [← hwa]
  go_loopw [10] (fun i wr => ∃ t : Nat, t ≤ sets.length ∧ i = .int .i64 (t : Int) ∧ Aside0 (∀ j, j < t → ∀ x, sets[j]? = some x → mayB n a k x.1 = true) ∧ Aside0 (Below wa.heap.size wa wr)) (fun i _ => (sets.length - intOf i).toNat)
  case atStart => exact ⟨0, Nat.zero_le _, rfl, ⟨fun j hj => absurd hj (Nat.not_lt_zero _)⟩, ⟨Below.refl _ _⟩⟩
  case round =>
    obtain ⟨t, ht, rfl, HO, HB⟩ := hrel
    by_cases hlt : t < sets.length
    · (obtain ⟨x, hx⟩ : ∃ x, sets[t]? = some x := ⟨_, List.getElem?_eq_getElem hlt⟩; obtain ⟨bb, ob, hA, hcb⟩ := C_at (Kd.C_below HC.out (bel_step HBA.out HB.out)) (by decide) hx; obtain ⟨x, y⟩ := x; have b0 : wr.cell? ⟨bb, ob + t * 2, none⟩ = some (.int .i64 x) := hcb 0 (by decide); have b1 : wr.cell? ⟨bb, ob + t * 2 + 1, none⟩ = some (.int .u64 y) := hcb 1 (by decide); subst hA; clear hcb; have c0 := bel_cell HB.out C0.out; have c1 := bel_cell HB.out C1.out)
      cases hmy : mayB n a k x with
      | true =>
        have HOK := Aside0.mk (show ∀ j, j < t + 1 → ∀ z, sets[j]? = some z → mayB n a k z.1 = true from fun j hj z hz => by
          rcases Nat.lt_or_ge j t with h | h
          · exact HO.out j h z hz
          · obtain rfl : j = t := by omega
            rw [hx] at hz
            obtain rfl := Option.some.inj hz
            exact hmy)
        have HMX := Aside0.mk (fun (W : World) => show Calls Tryz.prog 29 #[.slice A n c, .agg #[.int .i64 a, .int .i64 k], .agg #[.int .i64 x, .int .u64 y]] W (fun e w' => e = .returned (.bool true) ∧ Below W.heap.size W w') from by have := HMY.out W x y; rw [hmy] at this; exact this)
        clear hx hmy
        go_wp2_with fail
        refine start_ (n := 8) (S := fun w' => w'.cell? ⟨w.heap.size, 0, none⟩ = some (.int .i64 a) ∧ w'.cell? ⟨w.heap.size, 1, none⟩ = some (.int .i64 k) ∧ w'.cell? ⟨bb, ob + t * 2, none⟩ = some (.int .i64 x) ∧ w'.cell? ⟨bb, ob + t * 2 + 1, none⟩ = some (.int .u64 y)) (ds := []) #[false, false, false, false, false, false, false, false] (by kernel_rfl) rfl rfl ⟨c0, c1, b0, b1⟩ (fun hHeld => ?_)
        refine pure_ (i := 0) (N := some 25) (v := ?_) (a' := ?_) #[true, false, false, false, false, false, false, false] rfl rfl (by kernel_rfl) (fun _ _ _ h => h) (Or.inl ⟨by rfl, ?_⟩) ?_ ?_
        rotate_left
        · intro w'
          go_simp
          with_reducible rfl
        rotate_left
        · simp only [Act.put, List.setIfInBounds_toArray, List.set_cons_zero, List.set_cons_succ, i64_w, i32_w]
          rfl
        refine pure_ (i := 2) (N := some 27) (v := ?_) (a' := ?_) #[true, false, true, false, false, false, false, false] rfl rfl (by kernel_rfl) (fun _ _ _ h => h) (Or.inl ⟨by rfl, ?_⟩) ?_ ?_
        rotate_left
        · intro w'
          go_simp
          with_reducible rfl
        rotate_left
        · simp only [Act.put, List.setIfInBounds_toArray, List.set_cons_zero, List.set_cons_succ, i64_w, i32_w]
          rfl
        refine pure_ (i := 3) (N := some 28) (v := ?_) (a' := ?_) #[true, false, true, true, false, false, false, false] rfl rfl (by kernel_rfl) (fun _ _ _ h => h) (Or.inl ⟨by rfl, ?_⟩) ?_ ?_
        rotate_left
        · intro w'
          go_simp
          with_reducible rfl
        rotate_left
        · simp only [Act.put, List.setIfInBounds_toArray, List.set_cons_zero, List.set_cons_succ, i64_w, i32_w]
          rfl
        refine pure_ (i := 4) (N := some 29) (v := ?_) (a' := ?_) #[true, false, true, true, true, false, false, false] rfl rfl (by kernel_rfl) (fun _ _ _ h => h) (Or.inl ⟨by rfl, ?_⟩) ?_ ?_
        rotate_left
        · intro w'
          go_simp
          with_reducible rfl
        rotate_left
        · simp only [Act.put, List.setIfInBounds_toArray, List.set_cons_zero, List.set_cons_succ, i64_w, i32_w]
          rfl
        refine take_ (i := 1) (N := some 26) (v := ?_) (a' := ?_) #[true, true, true, true, true, false, false, false] rfl rfl (by kernel_rfl) (fun _ _ _ h => h) (Or.inl ⟨by rfl, ?_⟩) hHeld ?_ ?_
        rotate_left
        · rintro w' ⟨s0, s1, s2, s3⟩
          go_simp
          with_reducible rfl
        rotate_left
        · simp only [Act.put, List.setIfInBounds_toArray, List.set_cons_zero, List.set_cons_succ, i64_w, i32_w]
          rfl
        refine take_ (i := 5) (N := some 30) (v := ?_) (a' := ?_) #[true, true, true, true, true, true, false, false] rfl rfl (by kernel_rfl) (fun _ _ _ h => h) (Or.inl ⟨by rfl, ?_⟩) hHeld ?_ ?_
        rotate_left
        · rintro w' ⟨s0, s1, s2, s3⟩
          go_simp
          with_reducible rfl
        rotate_left
        · simp only [Act.put, List.setIfInBounds_toArray, List.set_cons_zero, List.set_cons_succ, i64_w, i32_w]
          rfl
        refine one_ (i := 6) (N := some 31) #[true, true, true, true, true, true, true, false] rfl rfl (by kernel_rfl) (by decide) (fun K hK => ?_)
        refine goes_ Tryz.func29 (by kernel_rfl) rfl #[.slice A n c, .agg #[.int .i64 a, .int .i64 k], .agg #[.int .i64 x, .int .u64 y]] (by rfl) rfl rfl (by simp only [List.map_toArray, List.map_cons, List.map_nil]; rfl) ?_
        with_reducible refine (HMX.out wr.drew).mono ?_
        rintro e w5 ⟨rfl, hb5⟩
        refine ⟨_, rfl, ?_⟩
        have HB5 := Aside0.mk (bel_step HB.out (bel_step (Below.refl wr.heap.size wr).drew hb5))
        have i0 := bel_cell hb5 hHeld.1
        have i1 := bel_cell hb5 hHeld.2.1
        have i2 := bel_cell hb5 hHeld.2.2.1
        have i3 := bel_cell hb5 hHeld.2.2.2
        clear hb5
        refine hK.out _ _ ⟨i0, i1, i2, i3⟩ (fun hHeld => ?_)
        clear hK K
        refine norm_ (a' := ?_) ?_ ?_
        rotate_left
        · show Act.put _ (some 31) _ = _
          simp only [Act.put, List.setIfInBounds_toArray, List.set_cons_zero, List.set_cons_succ, i64_w, i32_w]
          rfl
        refine pure_ (i := 7) (N := some 32) (v := ?_) (a' := ?_) #[true, true, true, true, true, true, true, true] rfl rfl (by kernel_rfl) (fun _ _ _ h => h) (Or.inl ⟨by rfl, ?_⟩) ?_ ?_
        rotate_left
        · intro w'
          go_simp
          with_reducible rfl
        rotate_left
        · simp only [Act.put, List.setIfInBounds_toArray, List.set_cons_zero, List.set_cons_succ, i64_w, i32_w]
          rfl
        refine done_ (by kernel_rfl) ?_
        go_wp2
        go_roundw
        case rel => exact ⟨t + 1, by omega, by go_num, HOK, HB5⟩
        case measure => simp [intOf]; omega
      | false =>
        have HMX := Aside0.mk (fun (W : World) => show Calls Tryz.prog 29 #[.slice A n c, .agg #[.int .i64 a, .int .i64 k], .agg #[.int .i64 x, .int .u64 y]] W (fun e w' => e = .returned (.bool false) ∧ Below W.heap.size W w') from by have := HMY.out W x y; rw [hmy] at this; exact this)
        clear hx hmy
        go_wp2_with fail
        refine start_ (n := 8) (S := fun w' => w'.cell? ⟨w.heap.size, 0, none⟩ = some (.int .i64 a) ∧ w'.cell? ⟨w.heap.size, 1, none⟩ = some (.int .i64 k) ∧ w'.cell? ⟨bb, ob + t * 2, none⟩ = some (.int .i64 x) ∧ w'.cell? ⟨bb, ob + t * 2 + 1, none⟩ = some (.int .u64 y)) (ds := []) #[false, false, false, false, false, false, false, false] (by kernel_rfl) rfl rfl ⟨c0, c1, b0, b1⟩ (fun hHeld => ?_)
        refine pure_ (i := 0) (N := some 25) (v := ?_) (a' := ?_) #[true, false, false, false, false, false, false, false] rfl rfl (by kernel_rfl) (fun _ _ _ h => h) (Or.inl ⟨by rfl, ?_⟩) ?_ ?_
        rotate_left
        · intro w'
          go_simp
          with_reducible rfl
        rotate_left
        · simp only [Act.put, List.setIfInBounds_toArray, List.set_cons_zero, List.set_cons_succ, i64_w, i32_w]
          rfl
        refine pure_ (i := 2) (N := some 27) (v := ?_) (a' := ?_) #[true, false, true, false, false, false, false, false] rfl rfl (by kernel_rfl) (fun _ _ _ h => h) (Or.inl ⟨by rfl, ?_⟩) ?_ ?_
        rotate_left
        · intro w'
          go_simp
          with_reducible rfl
        rotate_left
        · simp only [Act.put, List.setIfInBounds_toArray, List.set_cons_zero, List.set_cons_succ, i64_w, i32_w]
          rfl
        refine pure_ (i := 3) (N := some 28) (v := ?_) (a' := ?_) #[true, false, true, true, false, false, false, false] rfl rfl (by kernel_rfl) (fun _ _ _ h => h) (Or.inl ⟨by rfl, ?_⟩) ?_ ?_
        rotate_left
        · intro w'
          go_simp
          with_reducible rfl
        rotate_left
        · simp only [Act.put, List.setIfInBounds_toArray, List.set_cons_zero, List.set_cons_succ, i64_w, i32_w]
          rfl
        refine pure_ (i := 4) (N := some 29) (v := ?_) (a' := ?_) #[true, false, true, true, true, false, false, false] rfl rfl (by kernel_rfl) (fun _ _ _ h => h) (Or.inl ⟨by rfl, ?_⟩) ?_ ?_
        rotate_left
        · intro w'
          go_simp
          with_reducible rfl
        rotate_left
        · simp only [Act.put, List.setIfInBounds_toArray, List.set_cons_zero, List.set_cons_succ, i64_w, i32_w]
          rfl
        refine take_ (i := 1) (N := some 26) (v := ?_) (a' := ?_) #[true, true, true, true, true, false, false, false] rfl rfl (by kernel_rfl) (fun _ _ _ h => h) (Or.inl ⟨by rfl, ?_⟩) hHeld ?_ ?_
        rotate_left
        · rintro w' ⟨s0, s1, s2, s3⟩
          go_simp
          with_reducible rfl
        rotate_left
        · simp only [Act.put, List.setIfInBounds_toArray, List.set_cons_zero, List.set_cons_succ, i64_w, i32_w]
          rfl
        refine take_ (i := 5) (N := some 30) (v := ?_) (a' := ?_) #[true, true, true, true, true, true, false, false] rfl rfl (by kernel_rfl) (fun _ _ _ h => h) (Or.inl ⟨by rfl, ?_⟩) hHeld ?_ ?_
        rotate_left
        · rintro w' ⟨s0, s1, s2, s3⟩
          go_simp
          with_reducible rfl
        rotate_left
        · simp only [Act.put, List.setIfInBounds_toArray, List.set_cons_zero, List.set_cons_succ, i64_w, i32_w]
          rfl
        refine one_ (i := 6) (N := some 31) #[true, true, true, true, true, true, true, false] rfl rfl (by kernel_rfl) (by decide) (fun K hK => ?_)
        refine goes_ Tryz.func29 (by kernel_rfl) rfl #[.slice A n c, .agg #[.int .i64 a, .int .i64 k], .agg #[.int .i64 x, .int .u64 y]] (by rfl) rfl rfl (by simp only [List.map_toArray, List.map_cons, List.map_nil]; rfl) ?_
        with_reducible refine (HMX.out wr.drew).mono ?_
        rintro e w5 ⟨rfl, hb5⟩
        refine ⟨_, rfl, ?_⟩
        have HB5 := Aside0.mk (bel_step HB.out (bel_step (Below.refl wr.heap.size wr).drew hb5))
        have i0 := bel_cell hb5 hHeld.1
        have i1 := bel_cell hb5 hHeld.2.1
        have i2 := bel_cell hb5 hHeld.2.2.1
        have i3 := bel_cell hb5 hHeld.2.2.2
        clear hb5
        refine hK.out _ _ ⟨i0, i1, i2, i3⟩ (fun hHeld => ?_)
        clear hK K
        refine norm_ (a' := ?_) ?_ ?_
        rotate_left
        · show Act.put _ (some 31) _ = _
          simp only [Act.put, List.setIfInBounds_toArray, List.set_cons_zero, List.set_cons_succ, i64_w, i32_w]
          rfl
        refine pure_ (i := 7) (N := some 32) (v := ?_) (a' := ?_) #[true, true, true, true, true, true, true, true] rfl rfl (by kernel_rfl) (fun _ _ _ h => h) (Or.inl ⟨by rfl, ?_⟩) ?_ ?_
        rotate_left
        · intro w'
          go_simp
          with_reducible rfl
        rotate_left
        · simp only [Act.put, List.setIfInBounds_toArray, List.set_cons_zero, List.set_cons_succ, i64_w, i32_w]
          rfl
        refine done_ (by kernel_rfl) ?_
        go_wp2
        go_ret2
        exact ⟨rfl, bel_step HBA.out HB5.out⟩
    · exfalso
      have := HBAD.out
      rw [List.all_eq_false] at this
      obtain ⟨x, hx, hn⟩ := this
      obtain ⟨j, hj⟩ := List.getElem?_of_mem hx
      have := HO.out j (by have := (List.getElem?_eq_some_iff.1 hj).1; omega) x hj
      exact hn this
set_option maxRecDepth 100000 in
set_option maxHeartbeats 4000000 in
theorem rsteps_full (w : World) (n a k nx : Nat) (A : Option Addr) (c : Nat) (A5 : Option Addr) (c5 : Nat) (sets : List SetT) (hn : n ≤ 8192) (h1 : 1 ≤ k) (hak : a + k ≤ n) (hs : SetK.C w A5 sets.length sets) (hall : ∀ s ∈ sets, mayB n a k s.1 = true) (hs0 : 0 < sets.length) (hf : (k - 1) / 2 < sets.length ∨ 4294967295 < nx) (hnx : nx ≤ 9223372036854775807) : Calls Tryz.prog 14 #[.slice A n c, .agg #[.int .i64 a, .int .i64 k], .int .i64 nx, .slice A5 sets.length c5] w fun e w' => e = .returned (.tuple #[.slice none 0 0, .int .i64 40]) ∧ Below w.heap.size w w' := by
  (obtain ⟨r, hr⟩ : ∃ r : Nat, r = (k - 1) / 2 := ⟨_, rfl⟩; have HC := Aside0.mk hs; have HRM := Aside0.mk (fun (W : World) => show Calls Tryz.prog 10 #[.agg #[.int .i64 a, .int .i64 k]] W (fun e w' => e = .returned (.int .i64 (r : Nat)) ∧ Below W.heap.size W w') from by have := rroom_calls W a k ⟨by omega, by omega⟩; rw [show ((k : Int) - 1) / 2 = (r : Nat) by omega] at this; exact this); have HMY := Aside0.mk (fun (W : World) (x y : Int) => rmay_calls W A n c a k x y hn (by omega)); have hsl := hs.2.1; obtain ⟨wa, hwa⟩ : ∃ wa, wa = w.alloc (.cells #[.int .i64 a, .int .i64 k] 25) := ⟨_, rfl⟩; have C0 := Aside0.mk (show wa.cell? ⟨w.heap.size, 0, none⟩ = some (.int .i64 a) from by rw [hwa]; exact blk_cell (heap_alloc_new w _) (i := 0) rfl); have C1 := Aside0.mk (show wa.cell? ⟨w.heap.size, 1, none⟩ = some (.int .i64 k) from by rw [hwa]; exact blk_cell (heap_alloc_new w _) (i := 1) rfl); have HBA := Aside0.mk (show Below w.heap.size w wa from by rw [hwa]; exact below_alloc (Below.refl _ _) _))
  have HALL := Aside0.mk hall
  rw [← hr] at hf
  have hr9 : r ≤ 8192 := by omega
  clear hs hall hr
  rcases (show r < sets.length ∨ (sets.length ≤ r ∧ 4294967295 < nx) by omega) with z1 | ⟨z1, z2⟩
  all_goals
    clear hf
    go_enter Tryz.func14, Tryz.ntmps14
    go_wp2
    rw [← hwa]
    go_loopw [10] (fun i wr => ∃ t : Nat, t ≤ sets.length ∧ i = .int .i64 (t : Int) ∧ Aside0 (Below wa.heap.size wa wr)) (fun i _ => (sets.length - intOf i).toNat)
    case atStart => exact ⟨0, Nat.zero_le _, rfl, ⟨Below.refl _ _⟩⟩
    case round =>
      obtain ⟨t, ht, rfl, HB⟩ := hrel
      by_cases hlt : t < sets.length
      · (obtain ⟨x, hx⟩ : ∃ x, sets[t]? = some x := ⟨_, List.getElem?_eq_getElem hlt⟩; obtain ⟨bb, ob, hA, hcb⟩ := C_at (Kd.C_below HC.out (bel_step HBA.out HB.out)) (by decide) hx; obtain ⟨x, y⟩ := x; have b0 : wr.cell? ⟨bb, ob + t * 2, none⟩ = some (.int .i64 x) := hcb 0 (by decide); have b1 : wr.cell? ⟨bb, ob + t * 2 + 1, none⟩ = some (.int .u64 y) := hcb 1 (by decide); subst hA; clear hcb; have c0 := bel_cell HB.out C0.out; have c1 := bel_cell HB.out C1.out)
        have hmy : mayB n a k x = true := HALL.out _ (List.mem_of_getElem? hx)
        have HMX := Aside0.mk (fun (W : World) => show Calls Tryz.prog 29 #[.slice A n c, .agg #[.int .i64 a, .int .i64 k], .agg #[.int .i64 x, .int .u64 y]] W (fun e w' => e = .returned (.bool true) ∧ Below W.heap.size W w') from by have := HMY.out W x y; rw [hmy] at this; exact this)
        clear hx hmy
        go_wp2_with fail
        refine start_ (n := 8) (S := fun w' => w'.cell? ⟨w.heap.size, 0, none⟩ = some (.int .i64 a) ∧ w'.cell? ⟨w.heap.size, 1, none⟩ = some (.int .i64 k) ∧ w'.cell? ⟨bb, ob + t * 2, none⟩ = some (.int .i64 x) ∧ w'.cell? ⟨bb, ob + t * 2 + 1, none⟩ = some (.int .u64 y)) (ds := []) #[false, false, false, false, false, false, false, false] (by kernel_rfl) rfl rfl ⟨c0, c1, b0, b1⟩ (fun hHeld => ?_)
        refine pure_ (i := 0) (N := some 25) (v := ?_) (a' := ?_) #[true, false, false, false, false, false, false, false] rfl rfl (by kernel_rfl) (fun _ _ _ h => h) (Or.inl ⟨by rfl, ?_⟩) ?_ ?_
        rotate_left
        · intro w'
          go_simp
          with_reducible rfl
        rotate_left
        · simp only [Act.put, List.setIfInBounds_toArray, List.set_cons_zero, List.set_cons_succ, i64_w, i32_w]
          rfl
        refine pure_ (i := 2) (N := some 27) (v := ?_) (a' := ?_) #[true, false, true, false, false, false, false, false] rfl rfl (by kernel_rfl) (fun _ _ _ h => h) (Or.inl ⟨by rfl, ?_⟩) ?_ ?_
        rotate_left
        · intro w'
          go_simp
          with_reducible rfl
        rotate_left
        · simp only [Act.put, List.setIfInBounds_toArray, List.set_cons_zero, List.set_cons_succ, i64_w, i32_w]
          rfl
        refine pure_ (i := 3) (N := some 28) (v := ?_) (a' := ?_) #[true, false, true, true, false, false, false, false] rfl rfl (by kernel_rfl) (fun _ _ _ h => h) (Or.inl ⟨by rfl, ?_⟩) ?_ ?_
        rotate_left
        · intro w'
          go_simp
          with_reducible rfl
        rotate_left
        · simp only [Act.put, List.setIfInBounds_toArray, List.set_cons_zero, List.set_cons_succ, i64_w, i32_w]
          rfl
        refine pure_ (i := 4) (N := some 29) (v := ?_) (a' := ?_) #[true, false, true, true, true, false, false, false] rfl rfl (by kernel_rfl) (fun _ _ _ h => h) (Or.inl ⟨by rfl, ?_⟩) ?_ ?_
        rotate_left
        · intro w'
          go_simp
          with_reducible rfl
        rotate_left
        · simp only [Act.put, List.setIfInBounds_toArray, List.set_cons_zero, List.set_cons_succ, i64_w, i32_w]
          rfl
        refine take_ (i := 1) (N := some 26) (v := ?_) (a' := ?_) #[true, true, true, true, true, false, false, false] rfl rfl (by kernel_rfl) (fun _ _ _ h => h) (Or.inl ⟨by rfl, ?_⟩) hHeld ?_ ?_
        rotate_left
        · rintro w' ⟨s0, s1, s2, s3⟩
          go_simp
          with_reducible rfl
        rotate_left
        · simp only [Act.put, List.setIfInBounds_toArray, List.set_cons_zero, List.set_cons_succ, i64_w, i32_w]
          rfl
        refine take_ (i := 5) (N := some 30) (v := ?_) (a' := ?_) #[true, true, true, true, true, true, false, false] rfl rfl (by kernel_rfl) (fun _ _ _ h => h) (Or.inl ⟨by rfl, ?_⟩) hHeld ?_ ?_
        rotate_left
        · rintro w' ⟨s0, s1, s2, s3⟩
          go_simp
          with_reducible rfl
        rotate_left
        · simp only [Act.put, List.setIfInBounds_toArray, List.set_cons_zero, List.set_cons_succ, i64_w, i32_w]
          rfl
        refine one_ (i := 6) (N := some 31) #[true, true, true, true, true, true, true, false] rfl rfl (by kernel_rfl) (by decide) (fun K hK => ?_)
        refine goes_ Tryz.func29 (by kernel_rfl) rfl #[.slice A n c, .agg #[.int .i64 a, .int .i64 k], .agg #[.int .i64 x, .int .u64 y]] (by rfl) rfl rfl (by simp only [List.map_toArray, List.map_cons, List.map_nil]; rfl) ?_
        with_reducible refine (HMX.out wr.drew).mono ?_
        rintro e w5 ⟨rfl, hb5⟩
        refine ⟨_, rfl, ?_⟩
        have HB5 := Aside0.mk (bel_step HB.out (bel_step (Below.refl wr.heap.size wr).drew hb5))
        have i0 := bel_cell hb5 hHeld.1
        have i1 := bel_cell hb5 hHeld.2.1
        have i2 := bel_cell hb5 hHeld.2.2.1
        have i3 := bel_cell hb5 hHeld.2.2.2
        clear hb5
        refine hK.out _ _ ⟨i0, i1, i2, i3⟩ (fun hHeld => ?_)
        clear hK K
        refine norm_ (a' := ?_) ?_ ?_
        rotate_left
        · show Act.put _ (some 31) _ = _
          simp only [Act.put, List.setIfInBounds_toArray, List.set_cons_zero, List.set_cons_succ, i64_w, i32_w]
          rfl
        refine pure_ (i := 7) (N := some 32) (v := ?_) (a' := ?_) #[true, true, true, true, true, true, true, true] rfl rfl (by kernel_rfl) (fun _ _ _ h => h) (Or.inl ⟨by rfl, ?_⟩) ?_ ?_
        rotate_left
        · intro w'
          go_simp
          with_reducible rfl
        rotate_left
        · simp only [Act.put, List.setIfInBounds_toArray, List.set_cons_zero, List.set_cons_succ, i64_w, i32_w]
          rfl
        refine done_ (by kernel_rfl) ?_
        go_wp2
        go_roundw
        case rel => exact ⟨t + 1, by omega, by go_num, HB5⟩
        case measure => simp [intOf]; omega
      · obtain rfl : t = sets.length := by omega
        have c0 := bel_cell HB.out C0.out
        have c1 := bel_cell HB.out C1.out
        go_wp2_with (go_at_call 10; ((with_reducible refine (HRM.out _).mono ?_); rintro e w6 ⟨rfl, hb⟩; have HB6 := Aside0.mk (bel_step HB.out hb); clear hb))
        go_ret2
        exact ⟨rfl, bel_step HBA.out HB6.out⟩
theorem rput_at (w : World) (i : Nat) (z : Int) (hz : z = i) (hi : i ≤ 8192) (l : List Int) (hb : Bys l) (hl : l.length = 8) :
    Calls Tryz.prog 35 #[.int .i64 z, .string (strOfNums l)] w fun e w' => ∃ g c, e = .returned (.agg #[.int .i64 0, .int .i64 (8 * z), .int .i64 0, .slice (some ⟨g, 0, none⟩) l.length c, .slice none 0 0]) ∧ l.length ≤ c ∧ ReadsInt w' .u8 (some ⟨g, 0, none⟩) l.length l ∧ w.heap.size ≤ g ∧ Below w.heap.size w w' := by
  subst hz
  have := rputop2_calls w i hi l hb hl
  rw [← hl] at this
  exact this
theorem rfl_at (w : World) (i m : Nat) (z zm : Int) (hz : z = i) (hm : zm = m) (hi : i ≤ 8192) (hi2 : m ≤ 8192) :
    Calls Tryz.prog 36 #[.int .i64 z, .int .i64 zm] w fun e w' => e = .returned (.agg #[.int .i64 2, .int .i64 (8 * z), .int .i64 (8 * zm), .slice none 0 0, .slice none 0 0]) ∧ Below w.heap.size w w' := by
  subst hz hm
  exact rflushed_calls w i m hi hi2
theorem rfl1_at (w : World) (i : Nat) (z : Int) (hz : z = i) (hi : i ≤ 8192) :
    Calls Tryz.prog 36 #[.int .i64 z, .int .i64 1] w fun e w' => e = .returned (.agg #[.int .i64 2, .int .i64 (8 * z), .int .i64 8, .slice none 0 0, .slice none 0 0]) ∧ Below w.heap.size w w' := rfl_at w i 1 z 1 hz rfl hi (by decide)
theorem po_own (W : World) (os : List OpP) (cs : Array Value) (hcs : cs.toList = os.flatMap encPo) (hl : os.length ≤ 100) : RowPo (W.alloc (.cells cs 54)) W.heap.size (.slice (some ⟨W.heap.size, 0, none⟩) os.length os.length) os := by
  have hsz : cs.size = os.length * 5 := by
    rw [← Array.length_toList, hcs]
    clear hcs hl
    induction os with
    | nil => rfl
    | cons o os ih =>
      rw [List.flatMap_cons, List.length_append, ih, List.length_cons, show (encPo o).length = 5 from rfl]
      omega
  have h := World.ownsRow_lit (base := W.heap.size) (e := 54) (size := 5) W cs os.length (Nat.le_refl _) (by unfold maxLen; omega) hsz
  rw [hcs] at h
  exact R_flat.2 ⟨fun _ _ => trivial, h⟩
theorem AllO.cons {w : World} {T : Nat → Prop} {o : OpP} {m : StepM} {os : List OpP} {ms : List StepM} (h : OpOk w T o m) (h' : AllO w T os ms) : AllO w T (o :: os) (m :: ms) := ⟨h, h'⟩
theorem AllO.nil {w : World} {T : Nat → Prop} : AllO w T [] [] := trivial
theorem conv_z8 {w : World} {A : Option Addr} {c : Nat} (h : ReadsInt w .u8 A 8 (List.replicate 8 0)) : (convert 22 9 (.slice A 8 c)).run Tryz.prog w = .ok (.string (strOfNums zeros8)) w := conv_n h
theorem zeros8_bysR : Bys zeros8 := fun x hx => by rw [zeros8, List.mem_replicate] at hx; omega
theorem cut_behind {h b : List Int} (h8 : h.length = 8) (i n : Nat) (j : Nat) (hj : j = i + 8) : cut (h ++ b) j n = cut b i n := by
  rw [cut, cut, hj, List.drop_append, h8, List.drop_of_length_le (by omega), Nat.add_sub_cancel, List.nil_append]
end Go.Proofs.YtbfogcckbhkciaaGreat.Hand
namespace Go.Proofs.YtbfogcckbhkciaaGreat.Hand
set_option linter.unusedVariables false
set_option linter.unusedSimpArgs false
open Go.RowKit Go.Maps Go.Proofs.YtbfogcckbhkciaaGreatW.PrintWords Go.Proofs.YtbfogcckbhkciaaGreatW.PrintLast Go.Proofs.YtbfogcckbhkciaaGreatW.PrintMore Go.Proofs.YtbfogcckbhkciaaGreat.PHandRP
set_option linter.unusedVariables false
set_option linter.unusedSimpArgs false
theorem HasO.lower {w w1 W : World} {v : Value} {os : List OpP} {ms : List StepM} (h : HasO w1 W v os ms) (hb : Below w.heap.size w w1) : HasO w W v os ms :=
  ⟨Kd.R_lower h.row hb.size, h.all.go (fun k _ ht => ⟨rfl, Nat.le_trans hb.size ht.1, ht.2⟩), bel_step hb h.bel⟩
def StepsR (w : World) (ms : List StepM) (e : Ending) (w' : World) : Prop := ∃ (v : Value) (os : List OpP), e = .returned (.tuple #[v, .int .i64 0]) ∧ HasO w w' v os ms
set_option maxRecDepth 100000 in
set_option maxHeartbeats 8000000 in
theorem rsteps_good (w : World) (n a k nx : Nat) (A : Option Addr) (c : Nat) (A5 : Option Addr) (c5 : Nat) (sets : List SetT) (hn : n ≤ 8192) (h1 : 1 ≤ k) (hak : a + k ≤ n) (hs : SetK.C w A5 sets.length sets) (he : errW n a k nx sets = 0) (hps : ∀ s ∈ sets, PosSt s) : Calls Tryz.prog 14 #[.slice A n c, .agg #[.int .i64 a, .int .i64 k], .int .i64 nx, .slice A5 sets.length c5] w (StepsR w (walM a nx sets)) := by
  (obtain ⟨r, hr⟩ : ∃ r : Nat, r = (k - 1) / 2 := ⟨_, rfl⟩; have HC := Aside0.mk hs; have HRM := Aside0.mk (fun (W : World) => show Calls Tryz.prog 10 #[.agg #[.int .i64 a, .int .i64 k]] W (fun e w' => e = .returned (.int .i64 (r : Nat)) ∧ Below W.heap.size W w') from by have := rroom_calls W a k ⟨by omega, by omega⟩; rw [show ((k : Int) - 1) / 2 = (r : Nat) by omega] at this; exact this); have HMY := Aside0.mk (fun (W : World) (x y : Int) => rmay_calls W A n c a k x y hn (by omega)); have hsl := hs.2.1; obtain ⟨wa, hwa⟩ : ∃ wa, wa = w.alloc (.cells #[.int .i64 a, .int .i64 k] 25) := ⟨_, rfl⟩; have C0 := Aside0.mk (show wa.cell? ⟨w.heap.size, 0, none⟩ = some (.int .i64 a) from by rw [hwa]; exact blk_cell (heap_alloc_new w _) (i := 0) rfl); have C1 := Aside0.mk (show wa.cell? ⟨w.heap.size, 1, none⟩ = some (.int .i64 k) from by rw [hwa]; exact blk_cell (heap_alloc_new w _) (i := 1) rfl); have HBA := Aside0.mk (show Below w.heap.size w wa from by rw [hwa]; exact below_alloc (Below.refl _ _) _))
  obtain ⟨hall, hs0, hsr, hnx⟩ := errW_ok he
  rw [← hr] at hsr
  have hrk : 2 * r < k := by omega
  have HALL := Aside0.mk hall
  have HPS := Aside0.mk hps
  have hr9 : r ≤ 8192 := by omega
  have HRC := Aside0.mk (fun (W : World) (hW : Below w.heap.size w W) => rrecord_calls W A5 c5 sets nx (Kd.C_below hs hW) hps (by omega) (by omega) (by omega))
  have HBB := Aside0.mk (bodyL_bys sets)
  have HHB := Aside0.mk (headL_bys sets.length nx (bodyL sets))
  have hbl := bodyL_length sets
  have hhl := headL_length sets.length nx (bodyL sets)
  have HWM := Aside0.mk (show walM a nx sets = stepA a ++ stepB a (bodyL sets) (2 * sets.length) ++ stepC a (2 * sets.length) (headL sets.length nx (bodyL sets)) ++ stepE sets ++ [.fe] from by rw [walM, walS, show (bodyL sets).length / 8 = 2 * sets.length by omega])
  obtain ⟨hd, hhd⟩ : ∃ hd, hd = headL sets.length nx (bodyL sets) := ⟨_, rfl⟩
  rw [← hhd] at HWM HRC HHB hhl
  obtain ⟨bd, hbd⟩ : ∃ bd, bd = bodyL sets := ⟨_, rfl⟩
  rw [← hbd] at HWM HRC HBB hbl
  obtain ⟨X, hX⟩ : ∃ X, X = hd ++ bd := ⟨_, rfl⟩
  rw [← hX] at HRC
  have HX := Aside0.mk hX
  have hxs : (strOfNums X).size = 8 + 16 * sets.length := by rw [strOfNums_size, hX, List.length_append, hhl, hbl]
  have HXL := Aside0.mk (show X.length = 8 + 16 * sets.length by rw [hX, List.length_append, hhl, hbl])
  have HBL := Aside0.mk hbl
  have HHL := Aside0.mk hhl
  have hsm : sets.length ≤ 4096 := by omega
  rw [HWM.out]
  clear hs hall hr he hps hhd hbd hX hbl hhl HWM
  have km := print_make_int (P := Tryz.prog) 22 5 (.int .u8 0) 1 Tryz.underlying22 info_u8 rfl (by decide) 8 (by omega) (by omega)
  go_enter Tryz.func14, Tryz.ntmps14
  go_wp2
  rw [← hwa]
  go_loopw [10] (fun i wr => ∃ t : Nat, t ≤ sets.length ∧ i = .int .i64 (t : Int) ∧ Aside0 (Below wa.heap.size wa wr)) (fun i _ => (sets.length - intOf i).toNat)
  case atStart => exact ⟨0, Nat.zero_le _, rfl, ⟨Below.refl _ _⟩⟩
  case round =>
    obtain ⟨t, ht, rfl, HB⟩ := hrel
    by_cases hlt : t < sets.length
    · (obtain ⟨x, hx⟩ : ∃ x, sets[t]? = some x := ⟨_, List.getElem?_eq_getElem hlt⟩; obtain ⟨bb, ob, hA, hcb⟩ := C_at (Kd.C_below HC.out (bel_step HBA.out HB.out)) (by decide) hx; obtain ⟨x, y⟩ := x; have b0 : wr.cell? ⟨bb, ob + t * 2, none⟩ = some (.int .i64 x) := hcb 0 (by decide); have b1 : wr.cell? ⟨bb, ob + t * 2 + 1, none⟩ = some (.int .u64 y) := hcb 1 (by decide); subst hA; clear hcb; have c0 := bel_cell HB.out C0.out; have c1 := bel_cell HB.out C1.out)
      have hmy : mayB n a k x = true := HALL.out _ (List.mem_of_getElem? hx)
      have HMX := Aside0.mk (fun (W : World) => show Calls Tryz.prog 29 #[.slice A n c, .agg #[.int .i64 a, .int .i64 k], .agg #[.int .i64 x, .int .u64 y]] W (fun e w' => e = .returned (.bool true) ∧ Below W.heap.size W w') from by have := HMY.out W x y; rw [hmy] at this; exact this)
      clear hx hmy
      go_wp2_with fail
      refine start_ (n := 8) (S := fun w' => w'.cell? ⟨w.heap.size, 0, none⟩ = some (.int .i64 a) ∧ w'.cell? ⟨w.heap.size, 1, none⟩ = some (.int .i64 k) ∧ w'.cell? ⟨bb, ob + t * 2, none⟩ = some (.int .i64 x) ∧ w'.cell? ⟨bb, ob + t * 2 + 1, none⟩ = some (.int .u64 y)) (ds := []) #[false, false, false, false, false, false, false, false] (by kernel_rfl) rfl rfl ⟨c0, c1, b0, b1⟩ (fun hHeld => ?_)
      refine pure_ (i := 0) (N := some 25) (v := ?_) (a' := ?_) #[true, false, false, false, false, false, false, false] rfl rfl (by kernel_rfl) (fun _ _ _ h => h) (Or.inl ⟨by rfl, ?_⟩) ?_ ?_
      rotate_left
      · intro w'
        go_simp
        with_reducible rfl
      rotate_left
      · simp only [Act.put, List.setIfInBounds_toArray, List.set_cons_zero, List.set_cons_succ, i64_w, i32_w]
        rfl
      refine pure_ (i := 2) (N := some 27) (v := ?_) (a' := ?_) #[true, false, true, false, false, false, false, false] rfl rfl (by kernel_rfl) (fun _ _ _ h => h) (Or.inl ⟨by rfl, ?_⟩) ?_ ?_
      rotate_left
      · intro w'
        go_simp
        with_reducible rfl
      rotate_left
      · simp only [Act.put, List.setIfInBounds_toArray, List.set_cons_zero, List.set_cons_succ, i64_w, i32_w]
        rfl
      refine pure_ (i := 3) (N := some 28) (v := ?_) (a' := ?_) #[true, false, true, true, false, false, false, false] rfl rfl (by kernel_rfl) (fun _ _ _ h => h) (Or.inl ⟨by rfl, ?_⟩) ?_ ?_
      rotate_left
      · intro w'
        go_simp
        with_reducible rfl
      rotate_left
      · simp only [Act.put, List.setIfInBounds_toArray, List.set_cons_zero, List.set_cons_succ, i64_w, i32_w]
        rfl
      refine pure_ (i := 4) (N := some 29) (v := ?_) (a' := ?_) #[true, false, true, true, true, false, false, false] rfl rfl (by kernel_rfl) (fun _ _ _ h => h) (Or.inl ⟨by rfl, ?_⟩) ?_ ?_
      rotate_left
      · intro w'
        go_simp
        with_reducible rfl
      rotate_left
      · simp only [Act.put, List.setIfInBounds_toArray, List.set_cons_zero, List.set_cons_succ, i64_w, i32_w]
        rfl
      refine take_ (i := 1) (N := some 26) (v := ?_) (a' := ?_) #[true, true, true, true, true, false, false, false] rfl rfl (by kernel_rfl) (fun _ _ _ h => h) (Or.inl ⟨by rfl, ?_⟩) hHeld ?_ ?_
      rotate_left
      · rintro w' ⟨s0, s1, s2, s3⟩
        go_simp
        with_reducible rfl
      rotate_left
      · simp only [Act.put, List.setIfInBounds_toArray, List.set_cons_zero, List.set_cons_succ, i64_w, i32_w]
        rfl
      refine take_ (i := 5) (N := some 30) (v := ?_) (a' := ?_) #[true, true, true, true, true, true, false, false] rfl rfl (by kernel_rfl) (fun _ _ _ h => h) (Or.inl ⟨by rfl, ?_⟩) hHeld ?_ ?_
      rotate_left
      · rintro w' ⟨s0, s1, s2, s3⟩
        go_simp
        with_reducible rfl
      rotate_left
      · simp only [Act.put, List.setIfInBounds_toArray, List.set_cons_zero, List.set_cons_succ, i64_w, i32_w]
        rfl
      refine one_ (i := 6) (N := some 31) #[true, true, true, true, true, true, true, false] rfl rfl (by kernel_rfl) (by decide) (fun K hK => ?_)
      refine goes_ Tryz.func29 (by kernel_rfl) rfl #[.slice A n c, .agg #[.int .i64 a, .int .i64 k], .agg #[.int .i64 x, .int .u64 y]] (by rfl) rfl rfl (by simp only [List.map_toArray, List.map_cons, List.map_nil]; rfl) ?_
      with_reducible refine (HMX.out wr.drew).mono ?_
      rintro e w5 ⟨rfl, hb5⟩
      refine ⟨_, rfl, ?_⟩
      have HB5 := Aside0.mk (bel_step HB.out (bel_step (Below.refl wr.heap.size wr).drew hb5))
      have i0 := bel_cell hb5 hHeld.1
      have i1 := bel_cell hb5 hHeld.2.1
      have i2 := bel_cell hb5 hHeld.2.2.1
      have i3 := bel_cell hb5 hHeld.2.2.2
      clear hb5
      refine hK.out _ _ ⟨i0, i1, i2, i3⟩ (fun hHeld => ?_)
      clear hK K
      refine norm_ (a' := ?_) ?_ ?_
      rotate_left
      · show Act.put _ (some 31) _ = _
        simp only [Act.put, List.setIfInBounds_toArray, List.set_cons_zero, List.set_cons_succ, i64_w, i32_w]
        rfl
      refine pure_ (i := 7) (N := some 32) (v := ?_) (a' := ?_) #[true, true, true, true, true, true, true, true] rfl rfl (by kernel_rfl) (fun _ _ _ h => h) (Or.inl ⟨by rfl, ?_⟩) ?_ ?_
      rotate_left
      · intro w'
        go_simp
        with_reducible rfl
      rotate_left
      · simp only [Act.put, List.setIfInBounds_toArray, List.set_cons_zero, List.set_cons_succ, i64_w, i32_w]
        rfl
      refine done_ (by kernel_rfl) ?_
      go_wp2
      go_roundw
      case rel => exact ⟨t + 1, by omega, by go_num, HB5⟩
      case measure => simp [intOf]; omega
    · obtain rfl : t = sets.length := by omega
      have c0 := bel_cell HB.out C0.out
      have c1 := bel_cell HB.out C1.out
      go_wp2_with (first | (go_at_call 10; ((with_reducible refine (HRM.out _).mono ?_); rintro e w6 ⟨rfl, hb⟩; have HB6 := Aside0.mk (bel_step HB.out hb); clear hb)) | (go_at_call 30; ((with_reducible refine (HRC.out _ (bel_step HBA.out (below_alloc HB6.out _))).mono ?_); rintro e w7 ⟨rfl, hb⟩; have HB7a := Aside0.mk (bel_step (below_alloc HB6.out _) hb); have HB7 := Aside0.mk (bel_step HBA.out HB7a.out); have q0 := bel_cell HB7a.out C0.out; have q1 : w7.cell? ⟨w6.heap.size, 0, none⟩ = some (.int .i64 3) := bel_cell hb (blk_cell (heap_alloc_new w6 _) (i := 0) rfl); have q2 : w7.cell? ⟨w6.heap.size, 1, none⟩ = some (.int .i64 0) := bel_cell hb (blk_cell (heap_alloc_new w6 _) (i := 1) rfl); have q3 : w7.cell? ⟨w6.heap.size, 2, none⟩ = some (.int .i64 0) := bel_cell hb (blk_cell (heap_alloc_new w6 _) (i := 2) rfl); have q4 : w7.cell? ⟨w6.heap.size, 3, none⟩ = some (.slice none 0 0) := bel_cell hb (blk_cell (heap_alloc_new w6 _) (i := 3) rfl); have q5 : w7.cell? ⟨w6.heap.size, 4, none⟩ = some (.slice none 0 0) := bel_cell hb (blk_cell (heap_alloc_new w6 _) (i := 4) rfl); clear hb)))
      clear c0 c1
      refine start_ (n := 11) (S := fun w' => w'.cell? ⟨w.heap.size, 0, none⟩ = some (.int .i64 a) ∧ w'.cell? ⟨w6.heap.size, 0, none⟩ = some (.int .i64 3) ∧ w'.cell? ⟨w6.heap.size, 1, none⟩ = some (.int .i64 0) ∧ w'.cell? ⟨w6.heap.size, 2, none⟩ = some (.int .i64 0) ∧ w'.cell? ⟨w6.heap.size, 3, none⟩ = some (.slice none 0 0) ∧ w'.cell? ⟨w6.heap.size, 4, none⟩ = some (.slice none 0 0)) (ds := []) #[false, false, false, false, false, false, false, false, false, false, false] (by kernel_rfl) rfl rfl ⟨q0, q1, q2, q3, q4, q5⟩ (fun hHeld => ?_)
      refine pure_ (i := 0) (N := some 46) (v := ?_) (a' := ?_) #[true, false, false, false, false, false, false, false, false, false, false] rfl rfl (by kernel_rfl) (fun _ _ _ h => h) (Or.inl ⟨by rfl, ?_⟩) ?_ ?_
      rotate_left
      · intro w'
        go_simp
        with_reducible rfl
      rotate_left
      · simp only [Act.put, List.setIfInBounds_toArray, List.set_cons_zero, List.set_cons_succ, i64_w, i32_w]
        rfl
      refine pure_ (i := 5) (N := some 51) (v := ?_) (a' := ?_) #[true, false, false, false, false, true, false, false, false, false, false] rfl rfl (by kernel_rfl) (fun _ _ _ h => h) (Or.inl ⟨by rfl, ?_⟩) ?_ ?_
      rotate_left
      · intro w'
        go_simp
        with_reducible rfl
      rotate_left
      · simp only [Act.put, List.setIfInBounds_toArray, List.set_cons_zero, List.set_cons_succ, i64_w, i32_w]
        rfl
      refine take_ (i := 1) (N := some 47) (v := ?_) (a' := ?_) #[true, true, false, false, false, true, false, false, false, false, false] rfl rfl (by kernel_rfl) (fun _ _ _ h => h) (Or.inl ⟨by rfl, ?_⟩) hHeld ?_ ?_
      rotate_left
      · rintro w' ⟨s0, s1, s2, s3, s4, s5⟩
        go_simp
        with_reducible rfl
      rotate_left
      · simp only [Act.put, List.setIfInBounds_toArray, List.set_cons_zero, List.set_cons_succ, i64_w, i32_w]
        rfl
      refine take_ (i := 6) (N := some 52) (v := ?_) (a' := ?_) #[true, true, false, false, false, true, true, false, false, false, false] rfl rfl (by kernel_rfl) (fun _ _ _ h => h) (Or.inl ⟨by rfl, ?_⟩) hHeld ?_ ?_
      rotate_left
      · rintro w' ⟨s0, s1, s2, s3, s4, s5⟩
        go_simp
        with_reducible rfl
      rotate_left
      · simp only [Act.put, List.setIfInBounds_toArray, List.set_cons_zero, List.set_cons_succ, i64_w, i32_w]
        rfl
      refine take_ (i := 8) (N := some 54) (v := ?_) (a' := ?_) #[true, true, false, false, false, true, true, false, true, false, false] rfl rfl (by kernel_rfl) (fun _ _ _ h => h) (Or.inl ⟨by rfl, ?_⟩) hHeld ?_ ?_
      rotate_left
      · rintro w' ⟨s0, s1, s2, s3, s4, s5⟩
        go_simp
        with_reducible rfl
      rotate_left
      · simp only [Act.put, List.setIfInBounds_toArray, List.set_cons_zero, List.set_cons_succ, i64_w, i32_w]
        rfl
      refine one_ (i := 2) (N := some 48) #[true, true, true, false, false, true, true, false, true, false, false] rfl rfl (by kernel_rfl) (by decide) (fun K hK => ?_)
      refine value_ (w1 := ?_) (v := ?_) (by rfl) rfl ?_ ?_
      rotate_left 2
      · go_simp
        constructor
        · rfl
        · rfl
      have HZ8 := Aside0.mk (zeros_reads w7.drew 8 (by decide))
      have HB8 := Aside0.mk (below_alloc (Below.refl w7.heap.size w7).drew (.cells (madeCells #[.int .u8 0] 8) 5))
      have z0 := bel_cell HB8.out q0
      have z1 := bel_cell HB8.out q1
      have z2 := bel_cell HB8.out q2
      have z3 := bel_cell HB8.out q3
      have z4 := bel_cell HB8.out q4
      have z5 := bel_cell HB8.out q5
      refine hK.out _ _ ⟨z0, z1, z2, z3, z4, z5⟩ (fun hHeld => ?_)
      clear hK K
      refine norm_ (a' := ?_) ?_ ?_
      rotate_left
      · show Act.put _ (some 48) _ = _
        simp only [Act.put, List.setIfInBounds_toArray, List.set_cons_zero, List.set_cons_succ, i64_w, i32_w]
        rfl
      refine one_ (i := 3) (N := some 49) #[true, true, true, true, false, true, true, false, true, false, false] rfl rfl (by kernel_rfl) (by decide) (fun K hK => ?_)
      have hcv : (convert 22 9 (.slice (some ⟨w7.heap.size, 0, none⟩) 8 8)).run Tryz.prog (w7.alloc (.cells (madeCells #[.int .u8 0] 8) 5)).drew = .ok (.string (strOfNums zeros8)) (w7.alloc (.cells (madeCells #[.int .u8 0] 8) 5)).drew := conv_z8 (c := 8) HZ8.out
      refine value_ (w1 := ?_) (v := ?_) (by rfl) rfl ?_ ?_
      rotate_left 2
      · go_simp
        constructor
        · rfl
        · rfl
      clear hcv
      refine hK.out _ _ ⟨z0, z1, z2, z3, z4, z5⟩ (fun hHeld => ?_)
      clear hK K
      refine norm_ (a' := ?_) ?_ ?_
      rotate_left
      · show Act.put _ (some 49) _ = _
        simp only [Act.put, List.setIfInBounds_toArray, List.set_cons_zero, List.set_cons_succ, i64_w, i32_w]
        rfl
      refine one_ (i := 4) (N := some 50) #[true, true, true, true, true, true, true, false, true, false, false] rfl rfl (by kernel_rfl) (by decide) (fun K hK => ?_)
      refine goes_ Tryz.func35 (by kernel_rfl) rfl #[.int .i64 a, .string (strOfNums zeros8)] (by rfl) rfl rfl (by simp only [List.map_toArray, List.map_cons, List.map_nil]; rfl) ?_
      with_reducible refine (rput_at _ a a rfl (by omega) zeros8 zeros8_bysR rfl).mono ?_
      rintro e w9 ⟨g9, c9, rfl, hc9, hr9, hg9, hb9⟩
      refine ⟨_, rfl, ?_⟩
      have HC9 := Aside0.mk hc9
      have HR9 := Aside0.mk hr9
      have HG9 := Aside0.mk (Nat.le_trans HB8.out.size hg9)
      have HB9 := Aside0.mk (bel_step HB8.out hb9)
      have i0 := bel_cell HB9.out q0
      have i1 := bel_cell HB9.out q1
      have i2 := bel_cell HB9.out q2
      have i3 := bel_cell HB9.out q3
      have i4 := bel_cell HB9.out q4
      have i5 := bel_cell HB9.out q5
      clear hc9 hr9 hg9 hb9
      refine hK.out _ _ ⟨i0, i1, i2, i3, i4, i5⟩ (fun hHeld => ?_)
      clear hK K
      refine norm_ (a' := ?_) ?_ ?_
      rotate_left
      · show Act.put _ (some 50) _ = _
        simp only [Act.put, List.setIfInBounds_toArray, List.set_cons_zero, List.set_cons_succ, i64_w, i32_w]
        rfl
      refine one_ (i := 7) (N := some 53) #[true, true, true, true, true, true, true, true, true, false, false] rfl rfl (by kernel_rfl) (by decide) (fun K hK => ?_)
      refine goes_ Tryz.func36 (by kernel_rfl) rfl #[.int .i64 a, .int .i64 1] (by rfl) rfl rfl (by simp only [List.map_toArray, List.map_cons, List.map_nil]; rfl) ?_
      with_reducible refine (rfl1_at w9 a a rfl (by omega)).mono ?_
      rintro e w10 ⟨rfl, hb10⟩
      refine ⟨_, rfl, ?_⟩
      have HR10 := Aside0.mk (HR9.out.below hb10)
      have HB10 := Aside0.mk (bel_step HB9.out hb10)
      have j0 := bel_cell HB10.out q0
      have j1 := bel_cell HB10.out q1
      have j2 := bel_cell HB10.out q2
      have j3 := bel_cell HB10.out q3
      have j4 := bel_cell HB10.out q4
      have j5 := bel_cell HB10.out q5
      clear hb10
      refine hK.out _ _ ⟨j0, j1, j2, j3, j4, j5⟩ (fun hHeld => ?_)
      clear hK K
      refine norm_ (a' := ?_) ?_ ?_
      rotate_left
      · show Act.put _ (some 53) _ = _
        simp only [Act.put, List.setIfInBounds_toArray, List.set_cons_zero, List.set_cons_succ, i64_w, i32_w]
        rfl
      refine one_ (i := 9) (N := some 55) #[true, true, true, true, true, true, true, true, true, true, false] rfl rfl (by kernel_rfl) (by decide) (fun K hK => ?_)
      refine value_ (w1 := ?_) (v := ?_) (by rfl) rfl ?_ ?_
      rotate_left 2
      · go_simp
        constructor
        · rfl
        · rfl
      refine hK.out _ _ ⟨(bel_cell (below_alloc HB10.out _) q0), (bel_cell (below_alloc HB10.out _) q1), (bel_cell (below_alloc HB10.out _) q2), (bel_cell (below_alloc HB10.out _) q3), (bel_cell (below_alloc HB10.out _) q4), (bel_cell (below_alloc HB10.out _) q5)⟩ (fun hHeld => ?_)
      clear hK K
      refine norm_ (a' := ?_) ?_ ?_
      rotate_left
      · show Act.put _ (some 55) _ = _
        simp only [Act.put, List.setIfInBounds_toArray, List.set_cons_zero, List.set_cons_succ, i64_w, i32_w]
        rfl
      refine pure_ (i := 10) (N := some 13) (v := ?_) (a' := ?_) #[true, true, true, true, true, true, true, true, true, true, true] rfl rfl (by kernel_rfl) (fun _ _ _ h => h) (Or.inl ⟨by rfl, ?_⟩) ?_ ?_
      rotate_left
      · intro w'
        go_simp
        with_reducible rfl
      rotate_left
      · simp only [Act.put, List.setIfInBounds_toArray, List.set_cons_zero, List.set_cons_succ, i64_w, i32_w]
        rfl
      refine done_ (by kernel_rfl) ?_
      go_wp2_with fail
      have HBT := Aside0.mk (bel_step HB7.out HB10.out)
      have HN9 := Aside0.mk (reads_lt HR10.out (by decide) rfl)
      go_loopw [13, 14] (fun u i wr => ∃ (j : Nat) (os : List OpP), j ≤ 2 * sets.length ∧ i = .int .i64 (8 * (j : Int) + 8) ∧ Aside0 (HasO w7 wr u os (stepA a ++ stepB a bd j))) (fun _ i _ => (8 + 16 * sets.length - intOf i).toNat)
      case atStart =>
        refine ⟨0, [⟨0, 8 * (a : Int), 0, some ⟨g9, 0, none⟩, c9, zeros8, none, 0, []⟩, ⟨2, 8 * (a : Int), 8, none, 0, [], none, 0, []⟩, ⟨3, 0, 0, none, 0, [], none, 0, []⟩], Nat.zero_le _, rfl, ⟨⟨Kd.R_lower (po_own w10 _ _ rfl (by simp)) HB10.out.size, ?_, below_alloc HB10.out _⟩⟩⟩
        rw [show stepB a bd 0 = [] from rfl, List.append_nil]
        exact AllO.cons (op_wr _ _ (8 * a) (by omega) (8 * (a : Int)) (by omega) g9 c9 zeros8 (HR10.out.below (below_alloc (Below.refl _ _) _)) zeros8_bysR HC9.out ⟨HG9.out, fun e => Nat.lt_irrefl _ (by have h1 : g9 < w10.heap.size := HN9.out; have h2 : g9 = w10.heap.size := Option.some.inj e; rw [h2] at h1; exact h1)⟩) (AllO.cons (op_fl _ _ (8 * a) 8 (by omega) (by omega) (8 * (a : Int)) 8 (by omega) rfl) (AllO.cons (op_fe _ _) AllO.nil))
      case round =>
        obtain ⟨j, os, hj, rfl, HO⟩ := hrel
        have hol : os.length = 3 + j := by
          have := HO.out.all.len
          rw [this, List.length_append, stepB_length]
          rfl
        obtain ⟨A9, d9, hu9⟩ := Kd.R_slice HO.out.row
        subst hu9
        have HBW := Aside0.mk HO.out.bel
        have HOL := Aside0.mk hol
        clear hol
        by_cases hlt : j < 2 * sets.length
        · have hsl := fun (W : World) => str_midR X (8 * j + 8) 8 (8 * (j : Int) + 8) (8 * (j : Int) + 8 + 8) (by omega) (by omega) (by have := HXL.out; omega) W
          obtain ⟨S, hS⟩ : ∃ S, S = cut X (8 * j + 8) 8 := ⟨_, rfl⟩
          rw [← hS] at hsl
          rw [HX.out, cut_behind HHL.out (8 * j) 8 (8 * j + 8) rfl] at hS
          have HSL := Aside0.mk (show S.length = 8 by rw [hS]; exact cut_length (by have := HBL.out; omega))
          have HSB := Aside0.mk (show Bys S by rw [hS]; exact cut_bys HBB.out _ _)
          have HSS := Aside0.mk (show stepB a bd (j + 1) = stepB a bd j ++ [.wr (8 * (a + 1 + j)) S] by rw [hS]; exact stepB_succ a bd j)
          have e2 : Int.tdiv (8 * (j : Int) + 8) 8 = j + 1 := by rw [Int.tdiv_eq_ediv_of_nonneg (by omega)]; omega
          have e3 : IntKind.i64.wrap ((j : Int) + 1) = j + 1 := IntWalk.i64_in _ (by omega)
          have e4 : IntKind.i64.wrap ((a : Int) + ((j : Int) + 1)) = a + (j + 1) := IntWalk.i64_in _ (by omega)
          have e5 : IntKind.i64.wrap (8 * (j : Int) + 8 + 8) = 8 * j + 8 + 8 := IntWalk.i64_in _ (by omega)
          have r0 := bel_cell HBW.out q0
          clear hS
          clear z0 z1 z2 z3 z4 z5 i0 i1 i2 i3 i4 i5 j0 j1 j2 j3 j4 j5 hHeld
          go_wp2_with fail
          refine start_ (n := 15) (S := fun w' => w'.cell? ⟨w.heap.size, 0, none⟩ = some (.int .i64 a)) (ds := [13]) #[false, false, false, false, false, false, false, false, false, false, false, false, false, false, false] (by kernel_rfl) rfl rfl (r0) (fun hHeld => ?_)
          refine pure_ (i := 0) (N := some 62) (v := ?_) (a' := ?_) #[true, false, false, false, false, false, false, false, false, false, false, false, false, false, false] rfl rfl (by kernel_rfl) (fun _ _ _ h => h) (Or.inl ⟨by rfl, ?_⟩) ?_ ?_
          rotate_left
          · intro w'
            go_simp
            with_reducible rfl
          rotate_left
          · simp only [Act.put, List.setIfInBounds_toArray, List.set_cons_zero, List.set_cons_succ, i64_w, i32_w]
            rfl
          refine pure_ (i := 1) (N := some 63) (v := ?_) (a' := ?_) #[true, true, false, false, false, false, false, false, false, false, false, false, false, false, false] rfl rfl (by kernel_rfl) (fun _ _ _ h => h) (Or.inl ⟨by rfl, ?_⟩) ?_ ?_
          rotate_left
          · intro w'
            go_simp
            with_reducible rfl
          rotate_left
          · simp only [Act.put, List.setIfInBounds_toArray, List.set_cons_zero, List.set_cons_succ, i64_w, i32_w]
            rfl
          refine pure_ (i := 3) (N := some 65) (v := ?_) (a' := ?_) #[true, true, false, true, false, false, false, false, false, false, false, false, false, false, false] rfl rfl (by kernel_rfl) (fun _ _ _ h => h) (Or.inl ⟨by rfl, ?_⟩) ?_ ?_
          rotate_left
          · intro w'
            go_simp
            with_reducible rfl
          rotate_left
          · simp only [Act.put, List.setIfInBounds_toArray, List.set_cons_zero, List.set_cons_succ, i64_w, i32_w]
            rfl
          refine pure_ (i := 4) (N := some 66) (v := ?_) (a' := ?_) #[true, true, false, true, true, false, false, false, false, false, false, false, false, false, false] rfl rfl (by kernel_rfl) (fun _ _ _ h => h) (Or.inl ⟨by rfl, ?_⟩) ?_ ?_
          rotate_left
          · intro w'
            go_simp
            with_reducible rfl
          rotate_left
          · simp only [Act.put, List.setIfInBounds_toArray, List.set_cons_zero, List.set_cons_succ, i64_w, i32_w]
            rfl
          refine pure_ (i := 6) (N := some 68) (v := ?_) (a' := ?_) #[true, true, false, true, true, false, true, false, false, false, false, false, false, false, false] rfl rfl (by kernel_rfl) (fun _ _ _ h => h) (Or.inl ⟨by rfl, ?_⟩) ?_ ?_
          rotate_left
          · intro w'
            go_simp
            with_reducible rfl
          rotate_left
          · simp only [Act.put, List.setIfInBounds_toArray, List.set_cons_zero, List.set_cons_succ, i64_w, i32_w]
            rfl
          refine pure_ (i := 7) (N := some 69) (v := ?_) (a' := ?_) #[true, true, false, true, true, false, true, true, false, false, false, false, false, false, false] rfl rfl (by kernel_rfl) (fun _ _ _ h => h) (Or.inl ⟨by rfl, ?_⟩) ?_ ?_
          rotate_left
          · intro w'
            go_simp
            with_reducible rfl
          rotate_left
          · simp only [Act.put, List.setIfInBounds_toArray, List.set_cons_zero, List.set_cons_succ, i64_w, i32_w]
            rfl
          refine pure_ (i := 8) (N := some 70) (v := ?_) (a' := ?_) #[true, true, false, true, true, false, true, true, true, false, false, false, false, false, false] rfl rfl (by kernel_rfl) (fun _ _ _ h => h) (Or.inl ⟨by rfl, ?_⟩) ?_ ?_
          rotate_left
          · intro w'
            go_simp
            with_reducible rfl
          rotate_left
          · simp only [Act.put, List.setIfInBounds_toArray, List.set_cons_zero, List.set_cons_succ, i64_w, i32_w]
            rfl
          refine pure_ (i := 9) (N := some 71) (v := ?_) (a' := ?_) #[true, true, false, true, true, false, true, true, true, true, false, false, false, false, false] rfl rfl (by kernel_rfl) (fun _ _ _ h => h) (Or.inl ⟨by rfl, ?_⟩) ?_ ?_
          rotate_left
          · intro w'
            go_simp
            with_reducible rfl
          rotate_left
          · simp only [Act.put, List.setIfInBounds_toArray, List.set_cons_zero, List.set_cons_succ, i64_w, i32_w]
            rfl
          refine pure_ (i := 10) (N := some 72) (v := ?_) (a' := ?_) #[true, true, false, true, true, false, true, true, true, true, true, false, false, false, false] rfl rfl (by kernel_rfl) (fun _ _ _ h => h) (Or.inl ⟨by rfl, ?_⟩) ?_ ?_
          rotate_left
          · intro w'
            go_simp
            with_reducible rfl
          rotate_left
          · simp only [Act.put, List.setIfInBounds_toArray, List.set_cons_zero, List.set_cons_succ, i64_w, i32_w]
            rfl
          refine take_ (i := 2) (N := some 64) (v := ?_) (a' := ?_) #[true, true, true, true, true, false, true, true, true, true, true, false, false, false, false] rfl rfl (by kernel_rfl) (fun _ _ _ h => h) (Or.inl ⟨by rfl, ?_⟩) hHeld ?_ ?_
          rotate_left
          · intro w' s0
            go_simp
            with_reducible rfl
          rotate_left
          · simp only [Act.put, List.setIfInBounds_toArray, List.set_cons_zero, List.set_cons_succ, i64_w, i32_w]
            rfl
          refine pure_ (i := 5) (N := some 67) (v := ?_) (a' := ?_) #[true, true, true, true, true, true, true, true, true, true, true, false, false, false, false] rfl rfl (by kernel_rfl) (fun _ _ _ h => h) (Or.inl ⟨by rfl, ?_⟩) ?_ ?_
          rotate_left
          · intro w'
            go_simp
            with_reducible rfl
          rotate_left
          · simp only [Act.put, List.setIfInBounds_toArray, List.set_cons_zero, List.set_cons_succ, i64_w, i32_w]
            rfl
          refine one_ (i := 11) (N := some 73) #[true, true, true, true, true, true, true, true, true, true, true, true, false, false, false] rfl rfl (by kernel_rfl) (by decide) (fun K hK => ?_)
          refine goes_ Tryz.func35 (by kernel_rfl) rfl #[.int .i64 ((a : Int) + ((j : Int) + 1)), .string (strOfNums S)] (by rfl) rfl rfl (by simp only [List.map_toArray, List.map_cons, List.map_nil]; rfl) ?_
          with_reducible refine (rput_at wr.drew (a + 1 + j) ((a : Int) + ((j : Int) + 1)) (by omega) (by omega) S HSB.out HSL.out).mono ?_
          rintro e v5 ⟨g5, c5x, rfl, hc5, hr5, hg5, hb5⟩
          refine ⟨_, rfl, ?_⟩
          have HC5 := Aside0.mk hc5
          have HR5 := Aside0.mk hr5
          have HG5 := Aside0.mk hg5
          have HV5 := Aside0.mk (bel_step (Below.refl wr.heap.size wr).drew hb5)
          have s1 := bel_cell HV5.out r0
          clear hc5 hr5 hg5 hb5
          refine hK.out _ _ (s1) (fun hHeld => ?_)
          clear hK K
          refine norm_ (a' := ?_) ?_ ?_
          rotate_left
          · show Act.put _ (some 73) _ = _
            simp only [Act.put, List.setIfInBounds_toArray, List.set_cons_zero, List.set_cons_succ, i64_w, i32_w]
            rfl
          refine one_ (i := 12) (N := some 74) #[true, true, true, true, true, true, true, true, true, true, true, true, true, false, false] rfl rfl (by kernel_rfl) (by decide) (fun K hK => ?_)
          refine value_ (w1 := ?_) (v := ?_) (by rfl) rfl ?_ ?_
          rotate_left 2
          · go_simp
            constructor
            · rfl
            · rfl
          refine hK.out _ _ ((bel_cell (below_alloc HV5.out _) r0)) (fun hHeld => ?_)
          clear hK K
          refine norm_ (a' := ?_) ?_ ?_
          rotate_left
          · show Act.put _ (some 74) _ = _
            simp only [Act.put, List.setIfInBounds_toArray, List.set_cons_zero, List.set_cons_succ, i64_w, i32_w]
            rfl
          refine last_ (i := 13) (N := some 75) #[true, true, true, true, true, true, true, true, true, true, true, true, true, true, false] rfl rfl (by kernel_rfl) (by decide) (fun K hK => ?_)
          refine appO_step (w := w7) (by rfl) (.tmp 62) (.tmp 74) rfl (.slice A9 os.length d9) os [⟨0, 8 * ((a : Int) + ((j : Int) + 1)), 0, some ⟨g5, 0, none⟩, c5x, S, none, 0, []⟩] (stepA a ++ stepB a bd j) [.wr (8 * (a + 1 + j)) S] (some ⟨v5.heap.size, 0, none⟩) 1 1 rfl rfl rfl ?hA ?hB ?hC ?hE ?_
          case hA => exact HO.out.move (below_alloc HV5.out _)
          case hB => exact po_lit _ _ _ rfl (by simp)
          case hC => exact AllO.one (op_wr _ _ (8 * (a + 1 + j)) (by omega) _ (by omega) g5 c5x S (HR5.out.below (below_alloc (Below.refl _ _) _)) HSB.out HC5.out (HO.out.ts HG5.out))
          case hE => have := HOL.out; simp; omega
          intro v7 w8 ho8
          have HO8 := Aside0.mk ho8
          clear ho8
          refine hK.out _ _ ?_
          clear hK K
          refine norm_ (a' := ?_) ?_ ?_
          rotate_left
          · show Act.put _ (some 75) _ = _
            simp only [Act.put, List.setIfInBounds_toArray, List.set_cons_zero, List.set_cons_succ, i64_w, i32_w]
            rfl
          refine pure_ (i := 14) (N := some 13) (v := ?_) (a' := ?_) #[true, true, true, true, true, true, true, true, true, true, true, true, true, true, true] rfl rfl (by kernel_rfl) (fun _ _ _ h => h) (Or.inl ⟨by rfl, ?_⟩) ?_ ?_
          rotate_left
          · intro w'
            go_simp
            with_reducible rfl
          rotate_left
          · simp only [Act.put, List.setIfInBounds_toArray, List.set_cons_zero, List.set_cons_succ, i64_w, i32_w]
            rfl
          refine done_ (by kernel_rfl) ?_
          go_wp2
          go_roundw
          case rel => exact ⟨j + 1, os ++ [⟨0, 8 * ((a : Int) + ((j : Int) + 1)), 0, some ⟨g5, 0, none⟩, c5x, S, none, 0, []⟩], by omega, by go_num, ⟨by rw [HSS.out, ← List.append_assoc]; exact HO8.out⟩⟩
          case measure => simp [intOf]; omega
        · obtain rfl : j = 2 * sets.length := by omega
          have hsx := fun (W : World) => str_toR X 8 8 (by omega) (by have := HXL.out; omega) W
          rw [show X.take 8 = hd by rw [HX.out, List.take_left' HHL.out]] at hsx
          have e1 : IntKind.i64.wrap ((a : Int) + 1) = a + 1 := IntWalk.i64_in _ (by omega)
          have e2 : IntKind.i64.wrap (2 * (sets.length : Int)) = 2 * sets.length := IntWalk.i64_in _ (by omega)
          have r0 := bel_cell HBW.out q0
          have r1 := bel_cell HBW.out q1
          have r2 := bel_cell HBW.out q2
          have r3 := bel_cell HBW.out q3
          have r4 := bel_cell HBW.out q4
          have r5 := bel_cell HBW.out q5
          clear z0 z1 z2 z3 z4 z5 i0 i1 i2 i3 i4 i5 j0 j1 j2 j3 j4 j5 hHeld
          go_wp2_with fail
          refine start_ (n := 21) (S := fun w' => w'.cell? ⟨w.heap.size, 0, none⟩ = some (.int .i64 a) ∧ w'.cell? ⟨w6.heap.size, 0, none⟩ = some (.int .i64 3) ∧ w'.cell? ⟨w6.heap.size, 1, none⟩ = some (.int .i64 0) ∧ w'.cell? ⟨w6.heap.size, 2, none⟩ = some (.int .i64 0) ∧ w'.cell? ⟨w6.heap.size, 3, none⟩ = some (.slice none 0 0) ∧ w'.cell? ⟨w6.heap.size, 4, none⟩ = some (.slice none 0 0)) (ds := [19]) #[false, false, false, false, false, false, false, false, false, false, false, false, false, false, false, false, false, false, false, false, false] (by kernel_rfl) rfl rfl ⟨r0, r1, r2, r3, r4, r5⟩ (fun hHeld => ?_)
          refine pure_ (i := 0) (N := some 76) (v := ?_) (a' := ?_) #[true, false, false, false, false, false, false, false, false, false, false, false, false, false, false, false, false, false, false, false, false] rfl rfl (by kernel_rfl) (fun _ _ _ h => h) (Or.inl ⟨by rfl, ?_⟩) ?_ ?_
          rotate_left
          · intro w'
            go_simp
            with_reducible rfl
          rotate_left
          · simp only [Act.put, List.setIfInBounds_toArray, List.set_cons_zero, List.set_cons_succ, i64_w, i32_w]
            rfl
          refine pure_ (i := 1) (N := some 77) (v := ?_) (a' := ?_) #[true, true, false, false, false, false, false, false, false, false, false, false, false, false, false, false, false, false, false, false, false] rfl rfl (by kernel_rfl) (fun _ _ _ h => h) (Or.inl ⟨by rfl, ?_⟩) ?_ ?_
          rotate_left
          · intro w'
            go_simp
            with_reducible rfl
          rotate_left
          · simp only [Act.put, List.setIfInBounds_toArray, List.set_cons_zero, List.set_cons_succ, i64_w, i32_w]
            rfl
          refine pure_ (i := 4) (N := some 80) (v := ?_) (a' := ?_) #[true, true, false, false, true, false, false, false, false, false, false, false, false, false, false, false, false, false, false, false, false] rfl rfl (by kernel_rfl) (fun _ _ _ h => h) (Or.inl ⟨by rfl, ?_⟩) ?_ ?_
          rotate_left
          · intro w'
            go_simp
            with_reducible rfl
          rotate_left
          · simp only [Act.put, List.setIfInBounds_toArray, List.set_cons_zero, List.set_cons_succ, i64_w, i32_w]
            rfl
          refine pure_ (i := 5) (N := some 81) (v := ?_) (a' := ?_) #[true, true, false, false, true, true, false, false, false, false, false, false, false, false, false, false, false, false, false, false, false] rfl rfl (by kernel_rfl) (fun _ _ _ h => h) (Or.inl ⟨by rfl, ?_⟩) ?_ ?_
          rotate_left
          · intro w'
            go_simp
            with_reducible rfl
          rotate_left
          · simp only [Act.put, List.setIfInBounds_toArray, List.set_cons_zero, List.set_cons_succ, i64_w, i32_w]
            rfl
          refine pure_ (i := 6) (N := some 82) (v := ?_) (a' := ?_) #[true, true, false, false, true, true, true, false, false, false, false, false, false, false, false, false, false, false, false, false, false] rfl rfl (by kernel_rfl) (fun _ _ _ h => h) (Or.inl ⟨by rfl, ?_⟩) ?_ ?_
          rotate_left
          · intro w'
            go_simp
            with_reducible rfl
          rotate_left
          · simp only [Act.put, List.setIfInBounds_toArray, List.set_cons_zero, List.set_cons_succ, i64_w, i32_w]
            rfl
          refine pure_ (i := 9) (N := some 85) (v := ?_) (a' := ?_) #[true, true, false, false, true, true, true, false, false, true, false, false, false, false, false, false, false, false, false, false, false] rfl rfl (by kernel_rfl) (fun _ _ _ h => h) (Or.inl ⟨by rfl, ?_⟩) ?_ ?_
          rotate_left
          · intro w'
            go_simp
            with_reducible rfl
          rotate_left
          · simp only [Act.put, List.setIfInBounds_toArray, List.set_cons_zero, List.set_cons_succ, i64_w, i32_w]
            rfl
          refine pure_ (i := 11) (N := some 87) (v := ?_) (a' := ?_) #[true, true, false, false, true, true, true, false, false, true, false, true, false, false, false, false, false, false, false, false, false] rfl rfl (by kernel_rfl) (fun _ _ _ h => h) (Or.inl ⟨by rfl, ?_⟩) ?_ ?_
          rotate_left
          · intro w'
            go_simp
            with_reducible rfl
          rotate_left
          · simp only [Act.put, List.setIfInBounds_toArray, List.set_cons_zero, List.set_cons_succ, i64_w, i32_w]
            rfl
          refine pure_ (i := 12) (N := some 88) (v := ?_) (a' := ?_) #[true, true, false, false, true, true, true, false, false, true, false, true, true, false, false, false, false, false, false, false, false] rfl rfl (by kernel_rfl) (fun _ _ _ h => h) (Or.inl ⟨by rfl, ?_⟩) ?_ ?_
          rotate_left
          · intro w'
            go_simp
            with_reducible rfl
          rotate_left
          · simp only [Act.put, List.setIfInBounds_toArray, List.set_cons_zero, List.set_cons_succ, i64_w, i32_w]
            rfl
          refine pure_ (i := 14) (N := some 90) (v := ?_) (a' := ?_) #[true, true, false, false, true, true, true, false, false, true, false, true, true, false, true, false, false, false, false, false, false] rfl rfl (by kernel_rfl) (fun _ _ _ h => h) (Or.inl ⟨by rfl, ?_⟩) ?_ ?_
          rotate_left
          · intro w'
            go_simp
            with_reducible rfl
          rotate_left
          · simp only [Act.put, List.setIfInBounds_toArray, List.set_cons_zero, List.set_cons_succ, i64_w, i32_w]
            rfl
          refine take_ (i := 2) (N := some 78) (v := ?_) (a' := ?_) #[true, true, true, false, true, true, true, false, false, true, false, true, true, false, true, false, false, false, false, false, false] rfl rfl (by kernel_rfl) (fun _ _ _ h => h) (Or.inl ⟨by rfl, ?_⟩) hHeld ?_ ?_
          rotate_left
          · rintro w' ⟨s0, s1, s2, s3, s4, s5⟩
            go_simp
            with_reducible rfl
          rotate_left
          · simp only [Act.put, List.setIfInBounds_toArray, List.set_cons_zero, List.set_cons_succ, i64_w, i32_w]
            rfl
          refine pure_ (i := 3) (N := some 79) (v := ?_) (a' := ?_) #[true, true, true, true, true, true, true, false, false, true, false, true, true, false, true, false, false, false, false, false, false] rfl rfl (by kernel_rfl) (fun _ _ _ h => h) (Or.inl ⟨by rfl, ?_⟩) ?_ ?_
          rotate_left
          · intro w'
            go_simp
            with_reducible rfl
          rotate_left
          · simp only [Act.put, List.setIfInBounds_toArray, List.set_cons_zero, List.set_cons_succ, i64_w, i32_w]
            rfl
          refine take_ (i := 8) (N := some 84) (v := ?_) (a' := ?_) #[true, true, true, true, true, true, true, false, true, true, false, true, true, false, true, false, false, false, false, false, false] rfl rfl (by kernel_rfl) (fun _ _ _ h => h) (Or.inl ⟨by rfl, ?_⟩) hHeld ?_ ?_
          rotate_left
          · rintro w' ⟨s0, s1, s2, s3, s4, s5⟩
            go_simp
            with_reducible rfl
          rotate_left
          · simp only [Act.put, List.setIfInBounds_toArray, List.set_cons_zero, List.set_cons_succ, i64_w, i32_w]
            rfl
          refine take_ (i := 10) (N := some 86) (v := ?_) (a' := ?_) #[true, true, true, true, true, true, true, false, true, true, true, true, true, false, true, false, false, false, false, false, false] rfl rfl (by kernel_rfl) (fun _ _ _ h => h) (Or.inl ⟨by rfl, ?_⟩) hHeld ?_ ?_
          rotate_left
          · rintro w' ⟨s0, s1, s2, s3, s4, s5⟩
            go_simp
            with_reducible rfl
          rotate_left
          · simp only [Act.put, List.setIfInBounds_toArray, List.set_cons_zero, List.set_cons_succ, i64_w, i32_w]
            rfl
          refine take_ (i := 15) (N := some 91) (v := ?_) (a' := ?_) #[true, true, true, true, true, true, true, false, true, true, true, true, true, false, true, true, false, false, false, false, false] rfl rfl (by kernel_rfl) (fun _ _ _ h => h) (Or.inl ⟨by rfl, ?_⟩) hHeld ?_ ?_
          rotate_left
          · rintro w' ⟨s0, s1, s2, s3, s4, s5⟩
            go_simp
            with_reducible rfl
          rotate_left
          · simp only [Act.put, List.setIfInBounds_toArray, List.set_cons_zero, List.set_cons_succ, i64_w, i32_w]
            rfl
          refine take_ (i := 17) (N := some 93) (v := ?_) (a' := ?_) #[true, true, true, true, true, true, true, false, true, true, true, true, true, false, true, true, false, true, false, false, false] rfl rfl (by kernel_rfl) (fun _ _ _ h => h) (Or.inl ⟨by rfl, ?_⟩) hHeld ?_ ?_
          rotate_left
          · rintro w' ⟨s0, s1, s2, s3, s4, s5⟩
            go_simp
            with_reducible rfl
          rotate_left
          · simp only [Act.put, List.setIfInBounds_toArray, List.set_cons_zero, List.set_cons_succ, i64_w, i32_w]
            rfl
          refine one_ (i := 7) (N := some 83) #[true, true, true, true, true, true, true, true, true, true, true, true, true, false, true, true, false, true, false, false, false] rfl rfl (by kernel_rfl) (by decide) (fun K hK => ?_)
          refine goes_ Tryz.func36 (by kernel_rfl) rfl #[.int .i64 ((a : Int) + 1), .int .i64 (2 * (sets.length : Int))] (by rfl) rfl rfl (by simp only [List.map_toArray, List.map_cons, List.map_nil]; rfl) ?_
          with_reducible refine (rfl_at wr.drew (a + 1) (2 * sets.length) ((a : Int) + 1) (2 * (sets.length : Int)) (by omega) (by omega) (by omega) (by omega)).mono ?_
          rintro e v5 ⟨rfl, hb5⟩
          refine ⟨_, rfl, ?_⟩
          have HV5 := Aside0.mk (bel_step (Below.refl wr.heap.size wr).drew hb5)
          have s0 := bel_cell HV5.out r0
          have s1 := bel_cell HV5.out r1
          have s2 := bel_cell HV5.out r2
          have s3 := bel_cell HV5.out r3
          have s4 := bel_cell HV5.out r4
          have s5 := bel_cell HV5.out r5
          clear hb5
          refine hK.out _ _ ⟨s0, s1, s2, s3, s4, s5⟩ (fun hHeld => ?_)
          clear hK K
          refine norm_ (a' := ?_) ?_ ?_
          rotate_left
          · show Act.put _ (some 83) _ = _
            simp only [Act.put, List.setIfInBounds_toArray, List.set_cons_zero, List.set_cons_succ, i64_w, i32_w]
            rfl
          refine one_ (i := 13) (N := some 89) #[true, true, true, true, true, true, true, true, true, true, true, true, true, true, true, true, false, true, false, false, false] rfl rfl (by kernel_rfl) (by decide) (fun K hK => ?_)
          refine goes_ Tryz.func35 (by kernel_rfl) rfl #[.int .i64 a, .string (strOfNums hd)] (by rfl) rfl rfl (by simp only [List.map_toArray, List.map_cons, List.map_nil]; rfl) ?_
          with_reducible refine (rput_at v5 a a rfl (by omega) hd HHB.out HHL.out).mono ?_
          rintro e v6 ⟨g6, c6, rfl, hc6, hr6, hg6, hb6⟩
          refine ⟨_, rfl, ?_⟩
          have HC6 := Aside0.mk hc6
          have HR6 := Aside0.mk hr6
          have HG6 := Aside0.mk (Nat.le_trans HV5.out.size hg6)
          have HV6 := Aside0.mk (bel_step HV5.out hb6)
          have t0 := bel_cell HV6.out r0
          have t1 := bel_cell HV6.out r1
          have t2 := bel_cell HV6.out r2
          have t3 := bel_cell HV6.out r3
          have t4 := bel_cell HV6.out r4
          have t5 := bel_cell HV6.out r5
          clear hc6 hr6 hg6 hb6
          refine hK.out _ _ ⟨t0, t1, t2, t3, t4, t5⟩ (fun hHeld => ?_)
          clear hK K
          refine norm_ (a' := ?_) ?_ ?_
          rotate_left
          · show Act.put _ (some 89) _ = _
            simp only [Act.put, List.setIfInBounds_toArray, List.set_cons_zero, List.set_cons_succ, i64_w, i32_w]
            rfl
          refine one_ (i := 16) (N := some 92) #[true, true, true, true, true, true, true, true, true, true, true, true, true, true, true, true, true, true, false, false, false] rfl rfl (by kernel_rfl) (by decide) (fun K hK => ?_)
          refine goes_ Tryz.func36 (by kernel_rfl) rfl #[.int .i64 a, .int .i64 1] (by rfl) rfl rfl (by simp only [List.map_toArray, List.map_cons, List.map_nil]; rfl) ?_
          with_reducible refine (rfl1_at v6 a a rfl (by omega)).mono ?_
          rintro e v7 ⟨rfl, hb7⟩
          refine ⟨_, rfl, ?_⟩
          have HR7 := Aside0.mk (HR6.out.below hb7)
          have HV7 := Aside0.mk (bel_step HV6.out hb7)
          have u0 := bel_cell HV7.out r0
          have u1 := bel_cell HV7.out r1
          have u2 := bel_cell HV7.out r2
          have u3 := bel_cell HV7.out r3
          have u4 := bel_cell HV7.out r4
          have u5 := bel_cell HV7.out r5
          clear hb7
          refine hK.out _ _ ⟨u0, u1, u2, u3, u4, u5⟩ (fun hHeld => ?_)
          clear hK K
          refine norm_ (a' := ?_) ?_ ?_
          rotate_left
          · show Act.put _ (some 92) _ = _
            simp only [Act.put, List.setIfInBounds_toArray, List.set_cons_zero, List.set_cons_succ, i64_w, i32_w]
            rfl
          refine one_ (i := 18) (N := some 94) #[true, true, true, true, true, true, true, true, true, true, true, true, true, true, true, true, true, true, true, false, false] rfl rfl (by kernel_rfl) (by decide) (fun K hK => ?_)
          refine value_ (w1 := ?_) (v := ?_) (by rfl) rfl ?_ ?_
          rotate_left 2
          · go_simp
            constructor
            · rfl
            · rfl
          refine hK.out _ _ ⟨(bel_cell (below_alloc HV7.out _) r0), (bel_cell (below_alloc HV7.out _) r1), (bel_cell (below_alloc HV7.out _) r2), (bel_cell (below_alloc HV7.out _) r3), (bel_cell (below_alloc HV7.out _) r4), (bel_cell (below_alloc HV7.out _) r5)⟩ (fun hHeld => ?_)
          clear hK K
          refine norm_ (a' := ?_) ?_ ?_
          rotate_left
          · show Act.put _ (some 94) _ = _
            simp only [Act.put, List.setIfInBounds_toArray, List.set_cons_zero, List.set_cons_succ, i64_w, i32_w]
            rfl
          refine last_ (i := 19) (N := some 95) #[true, true, true, true, true, true, true, true, true, true, true, true, true, true, true, true, true, true, true, true, false] rfl rfl (by kernel_rfl) (by decide) (fun K hK => ?_)
          refine appO_step (w := w7) (by rfl) (.tmp 76) (.tmp 94) rfl (.slice A9 os.length d9) os [⟨2, 8 * ((a : Int) + 1), 8 * (2 * (sets.length : Int)), none, 0, [], none, 0, []⟩, ⟨3, 0, 0, none, 0, [], none, 0, []⟩, ⟨0, 8 * (a : Int), 0, some ⟨g6, 0, none⟩, c6, hd, none, 0, []⟩, ⟨2, 8 * (a : Int), 8, none, 0, [], none, 0, []⟩, ⟨3, 0, 0, none, 0, [], none, 0, []⟩] (stepA a ++ stepB a bd (2 * sets.length)) (stepC a (2 * sets.length) hd) (some ⟨v7.heap.size, 0, none⟩) 5 5 rfl rfl rfl ?hA ?hB ?hC ?hE ?_
          case hA => exact HO.out.move (below_alloc HV7.out _)
          case hB => exact po_lit _ _ _ rfl (by simp)
          case hC => exact AllO.cons (op_fl _ _ (8 * (a + 1)) (8 * (2 * sets.length)) (by omega) (by omega) _ _ (by omega) (by omega)) (AllO.cons (op_fe _ _) (AllO.cons (op_wr _ _ (8 * a) (by omega) _ (by omega) g6 c6 hd (HR7.out.below (below_alloc (Below.refl _ _) _)) HHB.out HC6.out (HO.out.ts HG6.out)) (AllO.cons (op_fl _ _ (8 * a) (8 * 1) (by omega) (by omega) _ _ (by omega) rfl) (AllO.cons (op_fe _ _) AllO.nil))))
          case hE => have := HOL.out; simp; omega
          intro v8 w8 ho8
          have HO8 := Aside0.mk ho8
          clear ho8
          refine hK.out _ _ ?_
          clear hK K
          refine norm_ (a' := ?_) ?_ ?_
          rotate_left
          · show Act.put _ (some 95) _ = _
            simp only [Act.put, List.setIfInBounds_toArray, List.set_cons_zero, List.set_cons_succ, i64_w, i32_w]
            rfl
          refine pure_ (i := 20) (N := some 13) (v := ?_) (a' := ?_) #[true, true, true, true, true, true, true, true, true, true, true, true, true, true, true, true, true, true, true, true, true] rfl rfl (by kernel_rfl) (fun _ _ _ h => h) (Or.inl ⟨by rfl, ?_⟩) ?_ ?_
          rotate_left
          · intro w'
            go_simp
            with_reducible rfl
          rotate_left
          · simp only [Act.put, List.setIfInBounds_toArray, List.set_cons_zero, List.set_cons_succ, i64_w, i32_w]
            rfl
          refine done_ (by kernel_rfl) ?_
          go_wp2_with fail
          obtain ⟨M, hM⟩ : ∃ M, M = stepA a ++ stepB a bd (2 * sets.length) ++ stepC a (2 * sets.length) hd := ⟨_, rfl⟩
          have HML := Aside0.mk (show M.length ≤ 8300 by rw [hM, List.length_append, List.length_append, stepB_length]; simp only [stepA, stepC, List.length_cons, List.length_nil]; omega)
          rw [← hM] at HO8
          have HMM := Aside0.mk hM
          clear hM HO HBW HOL r0 r1 r2 r3 r4 r5 s0 s1 s2 s3 s4 s5 t0 t1 t2 t3 t4 t5 u0 u1 u2 u3 u4 u5 hsx e1 e2
          go_loopw [13, 15] (fun u i wr => ∃ (j : Nat) (os : List OpP), j ≤ sets.length ∧ i = .int .i64 (j : Int) ∧ Aside0 (HasO w7 wr u os (M ++ stepE (sets.take j)))) (fun _ i _ => (sets.length - intOf i).toNat)
          case atStart => exact ⟨0, _, Nat.zero_le _, rfl, ⟨by rw [List.take_zero, show stepE [] = [] from rfl, List.append_nil]; exact HO8.out⟩⟩
          case round =>
            obtain ⟨j, os, hj, rfl, HO⟩ := hrel
            have hol : os.length ≤ 8300 + 2 * j := by
              have := HO.out.all.len
              rw [this, List.length_append, stepE_length, List.length_take]
              have := HML.out
              omega
            obtain ⟨A9, d9, hu9⟩ := Kd.R_slice HO.out.row
            subst hu9
            have HOL := Aside0.mk hol
            clear hol HO8
            by_cases hlt : j < sets.length
            · obtain ⟨x, hx⟩ : ∃ x, sets[j]? = some x := ⟨_, List.getElem?_eq_getElem hlt⟩
              have hps := HPS.out x (List.mem_of_getElem? hx)
              have hmy := may_range (HALL.out x (List.mem_of_getElem? hx))
              have HET := Aside0.mk (stepE_take hx)
              obtain ⟨bb, ob, hA, hcb⟩ := C_at (Kd.C_below HC.out (bel_step HB7.out HO.out.bel)) (by decide) hx
              obtain ⟨x, y⟩ := x
              have b0 : wr.cell? ⟨bb, ob + j * 2, none⟩ = some (.int .i64 x) := hcb 0 (by decide)
              have b1 : wr.cell? ⟨bb, ob + j * 2 + 1, none⟩ = some (.int .u64 y) := hcb 1 (by decide)
              subst hA
              obtain ⟨xi, hxi⟩ : ∃ xi : Nat, x = xi := ⟨x.toNat, by have := hmy.1; simp only at this; omega⟩
              have hx8 : xi ≤ 8192 := by have := hmy.2; simp only at this; omega
              have HXI := Aside0.mk hxi
              have HPY := Aside0.mk (show 0 ≤ y ∧ y < 18446744073709551616 from ⟨hps.n0, hps.n1⟩)
              clear hcb hx hps hmy hxi
              go_wp2_with fail
              refine start_ (n := 22) (S := fun w' => w'.cell? ⟨bb, ob + j * 2, none⟩ = some (.int .i64 x) ∧ w'.cell? ⟨bb, ob + j * 2 + 1, none⟩ = some (.int .u64 y)) (ds := [20]) #[false, false, false, false, false, false, false, false, false, false, false, false, false, false, false, false, false, false, false, false, false, false] (by kernel_rfl) rfl rfl ⟨b0, b1⟩ (fun hHeld => ?_)
              refine pure_ (i := 0) (N := some 102) (v := ?_) (a' := ?_) #[true, false, false, false, false, false, false, false, false, false, false, false, false, false, false, false, false, false, false, false, false, false] rfl rfl (by kernel_rfl) (fun _ _ _ h => h) (Or.inl ⟨by rfl, ?_⟩) ?_ ?_
              rotate_left
              · intro w'
                go_simp
                with_reducible rfl
              rotate_left
              · simp only [Act.put, List.setIfInBounds_toArray, List.set_cons_zero, List.set_cons_succ, i64_w, i32_w]
                rfl
              refine pure_ (i := 1) (N := some 103) (v := ?_) (a' := ?_) #[true, true, false, false, false, false, false, false, false, false, false, false, false, false, false, false, false, false, false, false, false, false] rfl rfl (by kernel_rfl) (fun _ _ _ h => h) (Or.inl ⟨by rfl, ?_⟩) ?_ ?_
              rotate_left
              · intro w'
                go_simp
                with_reducible rfl
              rotate_left
              · simp only [Act.put, List.setIfInBounds_toArray, List.set_cons_zero, List.set_cons_succ, i64_w, i32_w]
                rfl
              refine pure_ (i := 2) (N := some 104) (v := ?_) (a' := ?_) #[true, true, true, false, false, false, false, false, false, false, false, false, false, false, false, false, false, false, false, false, false, false] rfl rfl (by kernel_rfl) (fun _ _ _ h => h) (Or.inl ⟨by rfl, ?_⟩) ?_ ?_
              rotate_left
              · intro w'
                go_simp
                with_reducible rfl
              rotate_left
              · simp only [Act.put, List.setIfInBounds_toArray, List.set_cons_zero, List.set_cons_succ, i64_w, i32_w]
                rfl
              refine pure_ (i := 3) (N := some 105) (v := ?_) (a' := ?_) #[true, true, true, true, false, false, false, false, false, false, false, false, false, false, false, false, false, false, false, false, false, false] rfl rfl (by kernel_rfl) (fun _ _ _ h => h) (Or.inl ⟨by rfl, ?_⟩) ?_ ?_
              rotate_left
              · intro w'
                go_simp
                with_reducible rfl
              rotate_left
              · simp only [Act.put, List.setIfInBounds_toArray, List.set_cons_zero, List.set_cons_succ, i64_w, i32_w]
                rfl
              refine pure_ (i := 4) (N := some 106) (v := ?_) (a' := ?_) #[true, true, true, true, true, false, false, false, false, false, false, false, false, false, false, false, false, false, false, false, false, false] rfl rfl (by kernel_rfl) (fun _ _ _ h => h) (Or.inl ⟨by rfl, ?_⟩) ?_ ?_
              rotate_left
              · intro w'
                go_simp
                with_reducible rfl
              rotate_left
              · simp only [Act.put, List.setIfInBounds_toArray, List.set_cons_zero, List.set_cons_succ, i64_w, i32_w]
                rfl
              refine pure_ (i := 6) (N := some 108) (v := ?_) (a' := ?_) #[true, true, true, true, true, false, true, false, false, false, false, false, false, false, false, false, false, false, false, false, false, false] rfl rfl (by kernel_rfl) (fun _ _ _ h => h) (Or.inl ⟨by rfl, ?_⟩) ?_ ?_
              rotate_left
              · intro w'
                go_simp
                with_reducible rfl
              rotate_left
              · simp only [Act.put, List.setIfInBounds_toArray, List.set_cons_zero, List.set_cons_succ, i64_w, i32_w]
                rfl
              refine pure_ (i := 7) (N := some 109) (v := ?_) (a' := ?_) #[true, true, true, true, true, false, true, true, false, false, false, false, false, false, false, false, false, false, false, false, false, false] rfl rfl (by kernel_rfl) (fun _ _ _ h => h) (Or.inl ⟨by rfl, ?_⟩) ?_ ?_
              rotate_left
              · intro w'
                go_simp
                with_reducible rfl
              rotate_left
              · simp only [Act.put, List.setIfInBounds_toArray, List.set_cons_zero, List.set_cons_succ, i64_w, i32_w]
                rfl
              refine pure_ (i := 8) (N := some 110) (v := ?_) (a' := ?_) #[true, true, true, true, true, false, true, true, true, false, false, false, false, false, false, false, false, false, false, false, false, false] rfl rfl (by kernel_rfl) (fun _ _ _ h => h) (Or.inl ⟨by rfl, ?_⟩) ?_ ?_
              rotate_left
              · intro w'
                go_simp
                with_reducible rfl
              rotate_left
              · simp only [Act.put, List.setIfInBounds_toArray, List.set_cons_zero, List.set_cons_succ, i64_w, i32_w]
                rfl
              refine pure_ (i := 9) (N := some 111) (v := ?_) (a' := ?_) #[true, true, true, true, true, false, true, true, true, true, false, false, false, false, false, false, false, false, false, false, false, false] rfl rfl (by kernel_rfl) (fun _ _ _ h => h) (Or.inl ⟨by rfl, ?_⟩) ?_ ?_
              rotate_left
              · intro w'
                go_simp
                with_reducible rfl
              rotate_left
              · simp only [Act.put, List.setIfInBounds_toArray, List.set_cons_zero, List.set_cons_succ, i64_w, i32_w]
                rfl
              refine pure_ (i := 13) (N := some 115) (v := ?_) (a' := ?_) #[true, true, true, true, true, false, true, true, true, true, false, false, false, true, false, false, false, false, false, false, false, false] rfl rfl (by kernel_rfl) (fun _ _ _ h => h) (Or.inl ⟨by rfl, ?_⟩) ?_ ?_
              rotate_left
              · intro w'
                go_simp
                with_reducible rfl
              rotate_left
              · simp only [Act.put, List.setIfInBounds_toArray, List.set_cons_zero, List.set_cons_succ, i64_w, i32_w]
                rfl
              refine pure_ (i := 14) (N := some 116) (v := ?_) (a' := ?_) #[true, true, true, true, true, false, true, true, true, true, false, false, false, true, true, false, false, false, false, false, false, false] rfl rfl (by kernel_rfl) (fun _ _ _ h => h) (Or.inl ⟨by rfl, ?_⟩) ?_ ?_
              rotate_left
              · intro w'
                go_simp
                with_reducible rfl
              rotate_left
              · simp only [Act.put, List.setIfInBounds_toArray, List.set_cons_zero, List.set_cons_succ, i64_w, i32_w]
                rfl
              refine pure_ (i := 15) (N := some 117) (v := ?_) (a' := ?_) #[true, true, true, true, true, false, true, true, true, true, false, false, false, true, true, true, false, false, false, false, false, false] rfl rfl (by kernel_rfl) (fun _ _ _ h => h) (Or.inl ⟨by rfl, ?_⟩) ?_ ?_
              rotate_left
              · intro w'
                go_simp
                with_reducible rfl
              rotate_left
              · simp only [Act.put, List.setIfInBounds_toArray, List.set_cons_zero, List.set_cons_succ, i64_w, i32_w]
                rfl
              refine pure_ (i := 16) (N := some 118) (v := ?_) (a' := ?_) #[true, true, true, true, true, false, true, true, true, true, false, false, false, true, true, true, true, false, false, false, false, false] rfl rfl (by kernel_rfl) (fun _ _ _ h => h) (Or.inl ⟨by rfl, ?_⟩) ?_ ?_
              rotate_left
              · intro w'
                go_simp
                with_reducible rfl
              rotate_left
              · simp only [Act.put, List.setIfInBounds_toArray, List.set_cons_zero, List.set_cons_succ, i64_w, i32_w]
                rfl
              refine take_ (i := 5) (N := some 107) (v := ?_) (a' := ?_) #[true, true, true, true, true, true, true, true, true, true, false, false, false, true, true, true, true, false, false, false, false, false] rfl rfl (by kernel_rfl) (fun _ _ _ h => h) (Or.inl ⟨by rfl, ?_⟩) hHeld ?_ ?_
              rotate_left
              · rintro w' ⟨s0, s1⟩
                go_simp
                with_reducible rfl
              rotate_left
              · simp only [Act.put, List.setIfInBounds_toArray, List.set_cons_zero, List.set_cons_succ, i64_w, i32_w]
                rfl
              refine take_ (i := 10) (N := some 112) (v := ?_) (a' := ?_) #[true, true, true, true, true, true, true, true, true, true, true, false, false, true, true, true, true, false, false, false, false, false] rfl rfl (by kernel_rfl) (fun _ _ _ h => h) (Or.inl ⟨by rfl, ?_⟩) hHeld ?_ ?_
              rotate_left
              · rintro w' ⟨s0, s1⟩
                go_simp
                with_reducible rfl
              rotate_left
              · simp only [Act.put, List.setIfInBounds_toArray, List.set_cons_zero, List.set_cons_succ, i64_w, i32_w]
                rfl
              refine take_ (i := 17) (N := some 119) (v := ?_) (a' := ?_) #[true, true, true, true, true, true, true, true, true, true, true, false, false, true, true, true, true, true, false, false, false, false] rfl rfl (by kernel_rfl) (fun _ _ _ h => h) (Or.inl ⟨by rfl, ?_⟩) hHeld ?_ ?_
              rotate_left
              · rintro w' ⟨s0, s1⟩
                go_simp
                with_reducible rfl
              rotate_left
              · simp only [Act.put, List.setIfInBounds_toArray, List.set_cons_zero, List.set_cons_succ, i64_w, i32_w]
                rfl
              refine one_ (i := 11) (N := some 113) #[true, true, true, true, true, true, true, true, true, true, true, true, false, true, true, true, true, true, false, false, false, false] rfl rfl (by kernel_rfl) (by decide) (fun K hK => ?_)
              refine goes_ Tryz.func37 (by kernel_rfl) rfl #[.int .i64 8, .int .u64 y] (by rfl) rfl rfl (by simp only [List.map_toArray, List.map_cons, List.map_nil]; rfl) ?_
              with_reducible refine (rput8 wr.drew HPY.out.1 HPY.out.2).mono ?_
              rintro e v5 ⟨rfl, hb5⟩
              refine ⟨_, rfl, ?_⟩
              have HV5 := Aside0.mk (bel_step (Below.refl wr.heap.size wr).drew hb5)
              have s0 := bel_cell HV5.out b0
              have s1 := bel_cell HV5.out b1
              clear hb5
              refine hK.out _ _ ⟨s0, s1⟩ (fun hHeld => ?_)
              clear hK K
              refine norm_ (a' := ?_) ?_ ?_
              rotate_left
              · show Act.put _ (some 113) _ = _
                simp only [Act.put, List.setIfInBounds_toArray, List.set_cons_zero, List.set_cons_succ, i64_w, i32_w]
                rfl
              refine one_ (i := 12) (N := some 114) #[true, true, true, true, true, true, true, true, true, true, true, true, true, true, true, true, true, true, false, false, false, false] rfl rfl (by kernel_rfl) (by decide) (fun K hK => ?_)
              refine goes_ Tryz.func35 (by kernel_rfl) rfl #[.int .i64 x, .string (strOfNums (leB y 8))] (by rfl) rfl rfl (by simp only [List.map_toArray, List.map_cons, List.map_nil]; rfl) ?_
              with_reducible refine (rput_at v5 xi x HXI.out hx8 (leB y 8) (leB_bysq y 8) (leB_length y 8)).mono ?_
              rintro e v6 ⟨g6, c6, rfl, hc6, hr6, hg6, hb6⟩
              refine ⟨_, rfl, ?_⟩
              have HC6 := Aside0.mk hc6
              have HR6 := Aside0.mk hr6
              have HG6 := Aside0.mk (Nat.le_trans HV5.out.size hg6)
              have HV6 := Aside0.mk (bel_step HV5.out hb6)
              have t0 := bel_cell HV6.out b0
              have t1 := bel_cell HV6.out b1
              clear hc6 hr6 hg6 hb6
              refine hK.out _ _ ⟨t0, t1⟩ (fun hHeld => ?_)
              clear hK K
              refine norm_ (a' := ?_) ?_ ?_
              rotate_left
              · show Act.put _ (some 114) _ = _
                simp only [Act.put, List.setIfInBounds_toArray, List.set_cons_zero, List.set_cons_succ, i64_w, i32_w]
                rfl
              refine one_ (i := 18) (N := some 120) #[true, true, true, true, true, true, true, true, true, true, true, true, true, true, true, true, true, true, true, false, false, false] rfl rfl (by kernel_rfl) (by decide) (fun K hK => ?_)
              refine goes_ Tryz.func36 (by kernel_rfl) rfl #[.int .i64 x, .int .i64 1] (by rfl) rfl rfl (by simp only [List.map_toArray, List.map_cons, List.map_nil]; rfl) ?_
              with_reducible refine (rfl1_at v6 xi x HXI.out hx8).mono ?_
              rintro e v7 ⟨rfl, hb7⟩
              refine ⟨_, rfl, ?_⟩
              have HR7 := Aside0.mk (HR6.out.below hb7)
              have HV7 := Aside0.mk (bel_step HV6.out hb7)
              have u0 := bel_cell HV7.out b0
              have u1 := bel_cell HV7.out b1
              clear hb7
              refine hK.out _ _ ⟨u0, u1⟩ (fun hHeld => ?_)
              clear hK K
              refine norm_ (a' := ?_) ?_ ?_
              rotate_left
              · show Act.put _ (some 120) _ = _
                simp only [Act.put, List.setIfInBounds_toArray, List.set_cons_zero, List.set_cons_succ, i64_w, i32_w]
                rfl
              refine one_ (i := 19) (N := some 121) #[true, true, true, true, true, true, true, true, true, true, true, true, true, true, true, true, true, true, true, true, false, false] rfl rfl (by kernel_rfl) (by decide) (fun K hK => ?_)
              refine value_ (w1 := ?_) (v := ?_) (by rfl) rfl ?_ ?_
              rotate_left 2
              · go_simp
                constructor
                · rfl
                · rfl
              refine hK.out _ _ ⟨(bel_cell (below_alloc HV7.out _) b0), (bel_cell (below_alloc HV7.out _) b1)⟩ (fun hHeld => ?_)
              clear hK K
              refine norm_ (a' := ?_) ?_ ?_
              rotate_left
              · show Act.put _ (some 121) _ = _
                simp only [Act.put, List.setIfInBounds_toArray, List.set_cons_zero, List.set_cons_succ, i64_w, i32_w]
                rfl
              refine last_ (i := 20) (N := some 122) #[true, true, true, true, true, true, true, true, true, true, true, true, true, true, true, true, true, true, true, true, true, false] rfl rfl (by kernel_rfl) (by decide) (fun K hK => ?_)
              refine appO_step (w := w7) (by rfl) (.tmp 102) (.tmp 121) rfl (.slice A9 os.length d9) os [⟨0, 8 * x, 0, some ⟨g6, 0, none⟩, c6, leB y 8, none, 0, []⟩, ⟨2, 8 * x, 8, none, 0, [], none, 0, []⟩] (M ++ stepE (sets.take j)) (stepS (x, y)) (some ⟨v7.heap.size, 0, none⟩) 2 2 rfl rfl rfl ?hA ?hB ?hC ?hE ?_
              case hA => exact HO.out.move (below_alloc HV7.out _)
              case hB => exact po_lit _ _ _ rfl (by simp)
              case hC => exact AllO.cons (op_wr _ _ (8 * x.toNat) (by have := HXI.out; omega) _ (by have := HXI.out; omega) g6 c6 (leB y 8) (HR7.out.below (below_alloc (Below.refl _ _) _)) (leB_bysq y 8) HC6.out (HO.out.ts HG6.out)) (AllO.cons (op_fl _ _ (8 * x.toNat) (8 * 1) (by have := HXI.out; omega) (by omega) _ _ (by have := HXI.out; omega) rfl) AllO.nil)
              case hE => have := HOL.out; simp; omega
              intro v8 w8 ho8
              have HO8 := Aside0.mk ho8
              clear ho8
              refine hK.out _ _ ?_
              clear hK K
              refine norm_ (a' := ?_) ?_ ?_
              rotate_left
              · show Act.put _ (some 122) _ = _
                simp only [Act.put, List.setIfInBounds_toArray, List.set_cons_zero, List.set_cons_succ, i64_w, i32_w]
                rfl
              refine pure_ (i := 21) (N := some 13) (v := ?_) (a' := ?_) #[true, true, true, true, true, true, true, true, true, true, true, true, true, true, true, true, true, true, true, true, true, true] rfl rfl (by kernel_rfl) (fun _ _ _ h => h) (Or.inl ⟨by rfl, ?_⟩) ?_ ?_
              rotate_left
              · intro w'
                go_simp
                with_reducible rfl
              rotate_left
              · simp only [Act.put, List.setIfInBounds_toArray, List.set_cons_zero, List.set_cons_succ, i64_w, i32_w]
                rfl
              refine done_ (by kernel_rfl) ?_
              go_wp2
              go_roundw
              case rel => exact ⟨j + 1, _, by omega, by go_num, ⟨by rw [HET.out, ← List.append_assoc]; exact HO8.out⟩⟩
              case measure => simp [intOf]; omega
            · obtain rfl : j = sets.length := by omega
              have hbw := HO.out.bel
              have r1 := bel_cell hbw q1
              have r2 := bel_cell hbw q2
              have r3 := bel_cell hbw q3
              have r4 := bel_cell hbw q4
              have r5 := bel_cell hbw q5
              go_wp2_with ((with_reducible refine gate_bi (b := .append) (xs := #[.tmp 123, .tmp 125]) rfl ?_); go_must (refine appO_list (w := w7) rfl (.tmp 123) (.tmp 125) rfl (.slice A9 os.length d9) os [⟨3, 0, 0, none, 0, [], none, 0, []⟩] (M ++ stepE (sets.take sets.length)) [.fe] (some ⟨wr.heap.size, 0, none⟩) 1 1 rfl rfl rfl ?hA ?hB ?hC ?hE ?_); (case hA => exact HO.out.move (below_alloc (Below.refl _ _) _)); (case hB => exact po_lit _ _ _ rfl (by simp)); (case hC => exact AllO.cons (op_fe _ _) AllO.nil); (case hE => have := HOL.out; simp; omega); intro v8 w8 ho8; have HO8 := Aside0.mk ho8; clear ho8)
              go_ret2
              refine ⟨v8, os ++ [⟨3, 0, 0, none, 0, [], none, 0, []⟩], rfl, ?_⟩
              have h9 := HO8.out.lower HB7.out
              rw [List.take_of_length_le (Nat.le_refl _), HMM.out] at h9
              simpa only [List.append_assoc] using h9
end Go.Proofs.YtbfogcckbhkciaaGreat.Hand
namespace Go.Proofs.YtbfogcckbhkciaaGreat.Hand
set_option linter.unusedVariables false
set_option linter.unusedSimpArgs false
open Go.RowKit Go.Maps Go.Proofs.YtbfogcckbhkciaaGreatW.PrintWords Go.Proofs.YtbfogcckbhkciaaGreatW.PrintLast Go.Proofs.YtbfogcckbhkciaaGreatW.PrintMore Go.Proofs.YtbfogcckbhkciaaGreat.PHandRP
set_option linter.unusedVariables false
set_option linter.unusedSimpArgs false
theorem rsteps_bad (w : World) (n a k nx : Nat) (A : Option Addr) (c : Nat) (A5 : Option Addr) (c5 : Nat) (sets : List SetT) (hn : n ≤ 8192) (h1 : 1 ≤ k) (hak : a + k ≤ n) (hs : SetK.C w A5 sets.length sets) (hnx : nx ≤ 9223372036854775807) (he : errW n a k nx sets ≠ 0) :
    Calls Tryz.prog 14 #[.slice A n c, .agg #[.int .i64 a, .int .i64 k], .int .i64 nx, .slice A5 sets.length c5] w fun e w' => e = .returned (.tuple #[.slice none 0 0, .int .i64 (errW n a k nx sets)]) ∧ Below w.heap.size w w' := by
  by_cases h0 : sets = []
  · rw [show errW n a k nx sets = 1 by subst h0; simp [errW]]
    exact rsteps_none w n a k nx A c A5 c5 sets hn h1 hak hs h0
  · have hpos : 0 < sets.length := List.length_pos_iff.2 h0
    by_cases hb : (sets.all fun s => mayB n a k s.1) = false
    · rw [show errW n a k nx sets = 1 by rw [errW, if_pos hb]]
      exact rsteps_may w n a k nx A c A5 c5 sets hn h1 hak hs hpos hb
    · by_cases hf : (k - 1) / 2 < sets.length ∨ 4294967295 < nx
      · rw [show errW n a k nx sets = 40 by rw [errW, if_neg hb, if_neg h0, if_pos hf]]
        exact rsteps_full w n a k nx A c A5 c5 sets hn h1 hak hs (fun s hm => by
          have := Eq.mp (Bool.not_eq_false _) hb
          exact List.all_eq_true.1 this s hm) hpos hf hnx
      · exact absurd (by rw [errW, if_neg hb, if_neg h0, if_neg hf]) he
end Go.Proofs.YtbfogcckbhkciaaGreat.Hand
namespace Go.Proofs.YtbfogcckbhkciaaGreat.Hand
set_option linter.unusedVariables false
set_option linter.unusedSimpArgs false
open Go.RowKit Go.Maps Go.Proofs.YtbfogcckbhkciaaGreatW.PrintWords Go.Proofs.YtbfogcckbhkciaaGreatW.PrintLast Go.Proofs.YtbfogcckbhkciaaGreatW.PrintMore Go.Proofs.YtbfogcckbhkciaaGreat.PHandRP
set_option linter.unusedVariables false
set_option linter.unusedSimpArgs false
set_option maxRecDepth 100000 in
theorem does4_write (w : World) (p : Nat) (v : Value) (s f : Nat) (d : Dev) (z a long : Int) (A1 : Option Addr) (c1 : Nat) (bs : List Int) (A2 : Option Addr) (c2 : Nat) (ks : List Int) (h : HasD w p v s f d) (hw : WfPo w ⟨z, a, long, A1, c1, bs, A2, c2, ks⟩) (hz : z = 0) :
    Calls Tryz.prog 19 #[.pointer (some ⟨p, 0, none⟩), .agg #[.int .i64 z, .int .i64 a, .int .i64 long, .slice A1 bs.length c1, .slice A2 ks.length c2]] w (DoesV w p v s f (stepD d ⟨z, a, long, A1, c1, bs, A2, c2, ks⟩)) := by
  have HH := Aside0.mk h
  have HW := Aside0.mk hw
  subst hz
  by_cases he : insE d.B.length a bs.length = 0
  · obtain ⟨_, h2, h3⟩ := ins_ok he
    obtain ⟨a, rfl⟩ := Int.eq_ofNat_of_zero_le h2
    have HE := Aside0.mk he
    have HST := Aside0.mk (show stepD d ⟨0, (a : Int), long, A1, c1, bs, A2, c2, ks⟩ = d.write a bs by simp only [stepD]; rw [if_pos trivial, if_pos he, Int.toNat_natCast])
    rw [HST.out]
    clear h hw he
    go_enter Tryz.func19, Tryz.ntmps19
    go_wp2_with (go_at_call 45; (with_reducible refine (write_good _ p v s f d a A1 bs.length c1 bs rfl (HH.out.move (below_alloc (Below.refl _ _) _)) (HW.out.rb.below (below_alloc (Below.refl _ _) _)) HW.out.by_ HE.out).mono ?_); rintro e w2 ⟨rfl, hs2, hf2⟩; have HS2 := Aside0.mk hs2; have HF2 := Aside0.mk hf2; clear hs2 hf2)
    go_end0
    exact ⟨rfl, HS2.out, ((Fr.refl _ _).alloc _).trans' HF2.out⟩
  · have HE := Aside0.mk he
    have HST := Aside0.mk (show stepD d ⟨0, a, long, A1, c1, bs, A2, c2, ks⟩ = d by simp only [stepD]; rw [if_pos trivial, if_neg he])
    rw [HST.out]
    have hln := hw.rb.2.1
    simp only at hln
    clear h hw he
    go_enter Tryz.func19, Tryz.ntmps19
    go_wp2_with (go_at_call 45; (with_reducible refine (write_bad _ p v s f d a A1 bs.length c1 (HH.out.move (below_alloc (Below.refl _ _) _)) hln HE.out).mono ?_); rintro e w2 ⟨rfl, hb2⟩; have HB2 := Aside0.mk hb2; clear hb2)
    go_end0
    exact ⟨rfl, (HH.out.move (below_alloc (Below.refl _ _) _)).move HB2.out, (Fr.of_below ((below_alloc (Below.refl w.heap.size w) _).trans (HB2.out.mono (by simp))) _)⟩
set_option maxRecDepth 100000 in
theorem does4_flush (w : World) (p : Nat) (v : Value) (s f : Nat) (d : Dev) (z a long : Int) (A1 : Option Addr) (c1 : Nat) (bs : List Int) (A2 : Option Addr) (c2 : Nat) (ks : List Int) (h : HasD w p v s f d) (hw : WfPo w ⟨z, a, long, A1, c1, bs, A2, c2, ks⟩) (hz : z = 2) :
    Calls Tryz.prog 19 #[.pointer (some ⟨p, 0, none⟩), .agg #[.int .i64 z, .int .i64 a, .int .i64 long, .slice A1 bs.length c1, .slice A2 ks.length c2]] w (DoesV w p v s f (stepD d ⟨z, a, long, A1, c1, bs, A2, c2, ks⟩)) := by
  have HH := Aside0.mk h
  subst hz
  by_cases he : insE d.B.length a long = 0
  · obtain ⟨h1, h2, h3⟩ := ins_ok he
    obtain ⟨a, rfl⟩ := Int.eq_ofNat_of_zero_le h2
    obtain ⟨long, rfl⟩ := Int.eq_ofNat_of_zero_le h1
    have HE := Aside0.mk he
    have HST := Aside0.mk (show stepD d ⟨2, (a : Int), (long : Int), A1, c1, bs, A2, c2, ks⟩ = d.flush a long by simp only [stepD]; rw [if_neg (by decide), if_pos trivial, if_pos he, Int.toNat_natCast, Int.toNat_natCast])
    rw [HST.out]
    clear h hw he
    go_enter Tryz.func19, Tryz.ntmps19
    go_wp2_with (go_at_call 46; (with_reducible refine (flush_calls _ p v s f d a long (HH.out.move (below_alloc (Below.refl _ _) _)) HE.out).mono ?_); rintro e w2 ⟨rfl, hs2, hf2⟩; have HS2 := Aside0.mk hs2; have HF2 := Aside0.mk hf2; clear hs2 hf2)
    go_end0
    exact ⟨rfl, HS2.out, ((Fr.refl _ _).alloc _).trans' HF2.out⟩
  · have HE := Aside0.mk he
    have HST := Aside0.mk (show stepD d ⟨2, a, long, A1, c1, bs, A2, c2, ks⟩ = d by simp only [stepD]; rw [if_neg (by decide), if_pos trivial, if_neg he])
    rw [HST.out]
    clear h hw he
    go_enter Tryz.func19, Tryz.ntmps19
    go_wp2_with (go_at_call 46; (with_reducible refine (flush_bad _ p v s f d a long (HH.out.move (below_alloc (Below.refl _ _) _)) HE.out).mono ?_); rintro e w2 ⟨rfl, hb2⟩; have HB2 := Aside0.mk hb2; clear hb2)
    go_end0
    exact ⟨rfl, (HH.out.move (below_alloc (Below.refl _ _) _)).move HB2.out, (Fr.of_below ((below_alloc (Below.refl w.heap.size w) _).trans (HB2.out.mono (by simp))) _)⟩
set_option maxRecDepth 100000 in
theorem does4_fence (w : World) (p : Nat) (v : Value) (s f : Nat) (d : Dev) (z a long : Int) (A1 : Option Addr) (c1 : Nat) (bs : List Int) (A2 : Option Addr) (c2 : Nat) (ks : List Int) (h : HasD w p v s f d) (hw : WfPo w ⟨z, a, long, A1, c1, bs, A2, c2, ks⟩) (hz : z = 3) :
    Calls Tryz.prog 19 #[.pointer (some ⟨p, 0, none⟩), .agg #[.int .i64 z, .int .i64 a, .int .i64 long, .slice A1 bs.length c1, .slice A2 ks.length c2]] w (DoesV w p v s f (stepD d ⟨z, a, long, A1, c1, bs, A2, c2, ks⟩)) := by
  have HH := Aside0.mk h
  subst hz
  have HST := Aside0.mk (show stepD d ⟨3, a, long, A1, c1, bs, A2, c2, ks⟩ = d.fence by simp [stepD])
  rw [HST.out]
  clear h hw
  go_enter Tryz.func19, Tryz.ntmps19
  go_wp2_with (go_at_call 47; (with_reducible refine (fence_calls _ p v s f d (HH.out.move (below_alloc (Below.refl _ _) _))).mono ?_); rintro e w2 ⟨rfl, hs2, hf2⟩; have HS2 := Aside0.mk hs2; have HF2 := Aside0.mk hf2; clear hs2 hf2)
  go_end0
  exact ⟨rfl, HS2.out, ((Fr.refl _ _).alloc _).trans' HF2.out⟩
set_option maxRecDepth 100000 in
theorem does4_crash (w : World) (p : Nat) (v : Value) (s f : Nat) (d : Dev) (z a long : Int) (A1 : Option Addr) (c1 : Nat) (bs : List Int) (A2 : Option Addr) (c2 : Nat) (ks : List Int) (h : HasD w p v s f d) (hw : WfPo w ⟨z, a, long, A1, c1, bs, A2, c2, ks⟩) (hk : 0 < ks.length → ∀ ad, A2 = some ad → ¬ some ad.block = v.ownBlock) (hz : z = 4) :
    Calls Tryz.prog 19 #[.pointer (some ⟨p, 0, none⟩), .agg #[.int .i64 z, .int .i64 a, .int .i64 long, .slice A1 bs.length c1, .slice A2 ks.length c2]] w (DoesV w p v s f (stepD d ⟨z, a, long, A1, c1, bs, A2, c2, ks⟩)) := by
  have HH := Aside0.mk h
  have HW := Aside0.mk hw
  subst hz
  have HST := Aside0.mk (show stepD d ⟨4, a, long, A1, c1, bs, A2, c2, ks⟩ = d.crash ks by simp [stepD])
  rw [HST.out]
  clear h hw
  go_enter Tryz.func19, Tryz.ntmps19
  go_wp2_with (go_at_call 22; (with_reducible refine (crash_calls _ p v s f d A2 c2 ks (HH.out.move (below_alloc (Below.refl _ _) _)) (HW.out.rk.below (below_alloc (Below.refl _ _) _)) hk).mono ?_); rintro e w2 ⟨rfl, hs2, hf2⟩; have HS2 := Aside0.mk hs2; have HF2 := Aside0.mk hf2; clear hs2 hf2)
  go_end0
  exact ⟨rfl, HS2.out, ((Fr.refl _ _).alloc _).trans' HF2.out⟩
set_option maxRecDepth 100000 in
theorem does4_other (w : World) (p : Nat) (v : Value) (s f : Nat) (d : Dev) (z a long : Int) (A1 : Option Addr) (c1 : Nat) (bs : List Int) (A2 : Option Addr) (c2 : Nat) (ks : List Int) (h : HasD w p v s f d) (hw : WfPo w ⟨z, a, long, A1, c1, bs, A2, c2, ks⟩) (h0 : z ≠ 0) (h2 : z ≠ 2) (h3 : z ≠ 3) (h4 : z ≠ 4) :
    Calls Tryz.prog 19 #[.pointer (some ⟨p, 0, none⟩), .agg #[.int .i64 z, .int .i64 a, .int .i64 long, .slice A1 bs.length c1, .slice A2 ks.length c2]] w (DoesV w p v s f (stepD d ⟨z, a, long, A1, c1, bs, A2, c2, ks⟩)) := by
  have HH := Aside0.mk h
  have HST := Aside0.mk (show stepD d ⟨z, a, long, A1, c1, bs, A2, c2, ks⟩ = d by simp only [stepD]; rw [if_neg (by omega), if_neg (by omega), if_neg (by omega), if_neg (by omega)])
  rw [HST.out]
  have e0 : (z == 0) = false := by simp; omega
  have e2 : (z == 2) = false := by simp; omega
  have e3 : (z == 3) = false := by simp; omega
  have e4 : (z == 4) = false := by simp; omega
  clear h hw
  go_enter Tryz.func19, Tryz.ntmps19
  go_wp2
  go_end0
  exact ⟨rfl, (HH.out.move (below_alloc (Below.refl _ _) _)), (Fr.refl _ _).alloc _⟩
theorem does4_calls (w : World) (p : Nat) (v : Value) (s f : Nat) (d : Dev) (z a long : Int) (A1 : Option Addr) (c1 : Nat) (bs : List Int) (A2 : Option Addr) (c2 : Nat) (ks : List Int) (h : HasD w p v s f d) (hw : WfPo w ⟨z, a, long, A1, c1, bs, A2, c2, ks⟩) (hk : 0 < ks.length → ∀ ad, A2 = some ad → ¬ some ad.block = v.ownBlock) :
    Calls Tryz.prog 19 #[.pointer (some ⟨p, 0, none⟩), .agg #[.int .i64 z, .int .i64 a, .int .i64 long, .slice A1 bs.length c1, .slice A2 ks.length c2]] w (DoesV w p v s f (stepD d ⟨z, a, long, A1, c1, bs, A2, c2, ks⟩)) := by
  by_cases h0 : z = 0
  · exact does4_write w p v s f d z a long A1 c1 bs A2 c2 ks h hw h0
  by_cases h2 : z = 2
  · exact does4_flush w p v s f d z a long A1 c1 bs A2 c2 ks h hw h2
  by_cases h3 : z = 3
  · exact does4_fence w p v s f d z a long A1 c1 bs A2 c2 ks h hw h3
  by_cases h4 : z = 4
  · exact does4_crash w p v s f d z a long A1 c1 bs A2 c2 ks h hw hk h4
  · exact does4_other w p v s f d z a long A1 c1 bs A2 c2 ks h hw h0 h2 h3 h4
set_option maxRecDepth 100000 in
theorem made4_bad (w : World) (A0 : Option Addr) (c0 : Nat) (B : List Int) (A : Option Addr) (c : Nat) (os : List OpP) (hB : ReadsInt w .u8 A0 B.length B) (hby : Bys B) (ho : PoK.C w A os.length os) (hw : ∀ o ∈ os, WfPo w o) (hck : ∀ o ∈ os, o.ks.length ≤ o.c2) (hbad : B.length % 8 ≠ 0 ∨ 65536 < B.length) : Calls Tryz.prog 4 #[.slice A0 B.length c0, .slice A os.length c] w (MadeW w) := by
  have HO := Aside0.mk ho
  have HW := Aside0.mk hw
  have HCK := Aside0.mk hck
  have HR := Aside0.mk hB
  have HOF := Aside0.mk (fun (W : World) => of_bad W A0 B.length c0 hbad)
  have HNW := Aside0.mk (fun (W : World) => r3new_bad W B hbad)
  have hl : os.length ≤ 9223372036854775807 := ho.2.1
  clear ho hw hB hby hbad
  go_enter Tryz.func4, Tryz.ntmps4
  go_wp2
  go_loopw [7, 21] (fun n i wr => ∃ (k : Nat) (m : Int), k ≤ os.length ∧ n = .int .i64 m ∧ i = .int .i64 k ∧ Aside0 (Below w.heap.size w wr)) (fun _ i _ => (os.length - intOf i).toNat)
  case atStart => exact ⟨0, 0, Nat.zero_le _, rfl, rfl, ⟨Below.refl _ _⟩⟩
  case round =>
    obtain ⟨k, m, hk, rfl, rfl, HB⟩ := hrel
    by_cases hlt : k < os.length
    · (obtain ⟨o, hx⟩ : ∃ o, os[k]? = some o := ⟨_, List.getElem?_eq_getElem hlt⟩; obtain ⟨bb, ob, hB, hcb⟩ := C_at (Kd.C_below HO.out HB.out) (by decide) hx; subst hB; have HWO := Aside0.mk (HW.out o (List.mem_of_getElem? hx)); have HCO := Aside0.mk (HCK.out o (List.mem_of_getElem? hx)); obtain ⟨z, a, long, A1, c1, bs, A2, c2, ks⟩ := o; have b0 : wr.cell? ⟨bb, ob + k * 5, none⟩ = some (.int .i64 z) := hcb 0 (by decide); have b1 : wr.cell? ⟨bb, ob + k * 5 + 1, none⟩ = some (.int .i64 a) := hcb 1 (by decide); have b2 : wr.cell? ⟨bb, ob + k * 5 + 2, none⟩ = some (.int .i64 long) := hcb 2 (by decide); have b3 : wr.cell? ⟨bb, ob + k * 5 + 3, none⟩ = some (.slice A1 bs.length c1) := hcb 3 (by decide); have b4 : wr.cell? ⟨bb, ob + k * 5 + 4, none⟩ = some (.slice A2 ks.length c2) := hcb 4 (by decide); clear hcb)
      clear hx
      go_wp2
      refine ⟨⟨k + 1, _, by omega, rfl, by go_num, ⟨below_alloc HB.out _⟩⟩, by simp [intOf]; omega⟩
    · obtain rfl : k = os.length := by omega
      go_wp2_with (first | (go_at_call 17; (with_reducible refine (HOF.out _).mono ?_); rintro e w1 ⟨rfl, hb⟩; have HB1 := Aside0.mk (bel_step HB.out hb); have hcv := conv_n (c := c0) (HR.out.below HB1.out); clear hb) | (go_at_call 18; (with_reducible refine (HNW.out _).mono ?_); rintro e w2 ⟨v2, rfl, hb⟩; have HB2 := Aside0.mk (bel_step HB1.out hb); clear hb))
      go_ret3
      exact .inl ⟨rfl, HB2.out⟩
set_option maxRecDepth 100000 in
set_option maxHeartbeats 1000000 in
theorem made4_good (w : World) (A0 : Option Addr) (c0 : Nat) (B : List Int) (A : Option Addr) (c : Nat) (os : List OpP) (hB : ReadsInt w .u8 A0 B.length B) (hby : Bys B) (ho : PoK.C w A os.length os) (hw : ∀ o ∈ os, WfPo w o) (hck : ∀ o ∈ os, o.ks.length ≤ o.c2) {nn : Nat} (h8 : B.length = 8 * nn) (hn : nn ≤ 8192) : Calls Tryz.prog 4 #[.slice A0 B.length c0, .slice A os.length c] w (MadeW w) := by
  have HO := Aside0.mk ho
  have HW := Aside0.mk hw
  have HCK := Aside0.mk hck
  have HR := Aside0.mk hB
  have H8 := Aside0.mk h8
  have HDO := Aside0.mk (show (Dev.of B).Ok from Dev.Ok.of (by omega) (by omega) hby)
  have HOF := Aside0.mk (fun (W : World) (hW : Below w.heap.size w W) => show Calls Tryz.prog 17 #[.slice A0 B.length c0] W (NewDev W B) from of_calls W A0 c0 B (hB.below hW) hby (by omega) (by omega))
  have HNW := Aside0.mk (fun (W : World) => r3new_calls W B h8 hn)
  have hl : os.length ≤ 9223372036854775807 := ho.2.1
  have hbl : B.length ≤ 65536 := by omega
  clear ho hw hB hby h8
  go_enter Tryz.func4, Tryz.ntmps4
  go_wp2
  go_loopw [7, 21] (fun n i wr => ∃ (k : Nat) (m : Int), k ≤ os.length ∧ n = .int .i64 m ∧ i = .int .i64 k ∧ Aside0 (Below w.heap.size w wr)) (fun _ i _ => (os.length - intOf i).toNat)
  case atStart => exact ⟨0, 0, Nat.zero_le _, rfl, rfl, ⟨Below.refl _ _⟩⟩
  case round =>
    obtain ⟨k, m, hk, rfl, rfl, HB⟩ := hrel
    by_cases hlt : k < os.length
    · (obtain ⟨o, hx⟩ : ∃ o, os[k]? = some o := ⟨_, List.getElem?_eq_getElem hlt⟩; obtain ⟨bb, ob, hB, hcb⟩ := C_at (Kd.C_below HO.out HB.out) (by decide) hx; subst hB; have HWO := Aside0.mk (HW.out o (List.mem_of_getElem? hx)); have HCO := Aside0.mk (HCK.out o (List.mem_of_getElem? hx)); obtain ⟨z, a, long, A1, c1, bs, A2, c2, ks⟩ := o; have b0 : wr.cell? ⟨bb, ob + k * 5, none⟩ = some (.int .i64 z) := hcb 0 (by decide); have b1 : wr.cell? ⟨bb, ob + k * 5 + 1, none⟩ = some (.int .i64 a) := hcb 1 (by decide); have b2 : wr.cell? ⟨bb, ob + k * 5 + 2, none⟩ = some (.int .i64 long) := hcb 2 (by decide); have b3 : wr.cell? ⟨bb, ob + k * 5 + 3, none⟩ = some (.slice A1 bs.length c1) := hcb 3 (by decide); have b4 : wr.cell? ⟨bb, ob + k * 5 + 4, none⟩ = some (.slice A2 ks.length c2) := hcb 4 (by decide); clear hcb)
      clear hx
      go_wp2
      refine ⟨⟨k + 1, _, by omega, rfl, by go_num, ⟨below_alloc HB.out _⟩⟩, by simp [intOf]; omega⟩
    · obtain rfl : k = os.length := by omega
      rcases (show 200 < B.length ∨ (¬ 200 < B.length ∧ 60 < os.length) ∨ (¬ 200 < B.length ∧ ¬ 60 < os.length ∧ 2000 < m) ∨ (¬ 200 < B.length ∧ ¬ 60 < os.length ∧ ¬ 2000 < m) by omega) with g1 | ⟨g1, g2⟩ | ⟨g1, g2, g3⟩ | ⟨g1, g2, g3⟩
      all_goals
        go_wp2_with (first | (go_at_call 17; (with_reducible refine (HOF.out _ HB.out).mono ?_); rintro e w1 ⟨p, u, s, f, rfl, hd1, hp1, hv1, hb1⟩; have HD1 := Aside0.mk hd1; have HP1 := Aside0.mk (Nat.le_trans HB.out.size hp1); have HV1 := Aside0.mk (fun b hb => Nat.le_trans HB.out.size (hv1 b hb)); have HB1 := Aside0.mk (bel_step HB.out hb1); have hcv := conv_n (c := c0) (HR.out.below HB1.out); clear hd1 hp1 hv1 hb1) | (go_at_call 18; (with_reducible refine (HNW.out _).mono ?_); rintro e w2 ⟨v2, rfl, hr2, hb2⟩; have HR2 := Aside0.mk hr2; have HB2 := Aside0.mk (bel_step HB1.out hb2); have HD2 := Aside0.mk (HD1.out.move hb2); have HW2 := Aside0.mk hb2.size; clear hr2 hb2))
      go_ret3
      exact .inl ⟨rfl, HB2.out⟩
      go_ret3
      exact .inl ⟨rfl, HB2.out⟩
      go_ret3
      exact .inl ⟨rfl, HB2.out⟩
      clear hcv
      have HOW := Aside0.mk (show ∀ b, OwnD u s f b → b < w1.heap.size from fun b hb => HD1.out.own_lt hb)
      go_loopw [12, 72] (fun rv i wr => ∃ k : Nat, k ≤ os.length ∧ i = .int .i64 k ∧ Aside0 (RowV wr w1.heap.size rv (runD (Dev.of B) (os.take k)) nn) ∧ Aside0 (HasD wr p u s f (runD (Dev.of B) (os.take k))) ∧ Aside0 (Below w.heap.size w wr) ∧ Aside0 (w1.heap.size ≤ wr.heap.size)) (fun _ i _ => (os.length - intOf i).toNat)
      case atStart => exact ⟨0, Nat.zero_le _, rfl, HR2, HD2, HB2, HW2⟩
      case round =>
        obtain ⟨k, hk, rfl, HRr, HD, HB, HS⟩ := hrel
        by_cases hlt : k < os.length
        · have HLN := Aside0.mk (runD_len HDO.out (fun o ho => (HW.out o (List.mem_of_mem_take ho))) (k := k))
          (obtain ⟨o, hx⟩ : ∃ o, os[k]? = some o := ⟨_, List.getElem?_eq_getElem hlt⟩; obtain ⟨bb, ob, hB, hcb⟩ := C_at (Kd.C_below HO.out HB.out) (by decide) hx; subst hB; have HWO := Aside0.mk (HW.out o (List.mem_of_getElem? hx)); have HCO := Aside0.mk (HCK.out o (List.mem_of_getElem? hx)); obtain ⟨z, a, long, A1, c1, bs, A2, c2, ks⟩ := o; have b0 : wr.cell? ⟨bb, ob + k * 5, none⟩ = some (.int .i64 z) := hcb 0 (by decide); have b1 : wr.cell? ⟨bb, ob + k * 5 + 1, none⟩ = some (.int .i64 a) := hcb 1 (by decide); have b2 : wr.cell? ⟨bb, ob + k * 5 + 2, none⟩ = some (.int .i64 long) := hcb 2 (by decide); have b3 : wr.cell? ⟨bb, ob + k * 5 + 3, none⟩ = some (.slice A1 bs.length c1) := hcb 3 (by decide); have b4 : wr.cell? ⟨bb, ob + k * 5 + 4, none⟩ = some (.slice A2 ks.length c2) := hcb 4 (by decide); clear hcb)
          have HRN := Aside0.mk (runD_take (d := Dev.of B) hx)
          clear hx
          by_cases hz1 : z = 1
          · subst hz1
            have HST := Aside0.mk (show stepD (runD (Dev.of B) (os.take k)) ⟨1, a, long, A1, c1, bs, A2, c2, ks⟩ = runD (Dev.of B) (os.take k) from by simp [stepD])
            go_wp2
            refine ⟨⟨k + 1, by omega, by go_num, ⟨?_⟩, ⟨?_⟩, ⟨below_alloc HB.out _⟩, ⟨Nat.le_trans HS.out (below_alloc (Below.refl _ _) _).size⟩⟩, by simp [intOf]; omega⟩
            · rw [HRN.out, HST.out]
              exact Kd.V_below HRr.out (below_alloc (Below.refl _ _) _)
            · rw [HRN.out, HST.out]
              exact HD.out.move (below_alloc (Below.refl _ _) _)
          · obtain ⟨dk, hdk⟩ : ∃ dk, dk = runD (Dev.of B) (os.take k) := ⟨_, rfl⟩
            rw [← hdk] at HRr HD HLN HRN
            have hz1b : (z == 1) = false := by simp; omega
            have HDD := Aside0.mk (fun (W : World) (hW : Below wr.heap.size wr W) => r3do_calls HD.out.ok (by rw [HLN.out]; exact H8.out) (Kd.V_below HRr.out hW) (Nat.le_trans HS.out hW.size) ⟨z, a, long, A1, c1, bs, A2, c2, ks⟩ (HWO.out.below (bel_step HB.out hW)) HCO.out hz1)
            have HDS := Aside0.mk (fun (W : World) (hW : Below wr.heap.size wr W) => does4_calls W p u s f _ z a long A1 c1 bs A2 c2 ks (HD.out.move hW) (HWO.out.below (bel_step HB.out hW)) (reads_off HWO.out.rk (fun b hb => HV1.out b (.inl hb))))
            have HBA := Aside0.mk (below_alloc (Below.refl wr.heap.size wr) (.cells #[.int .i64 z, .int .i64 a, .int .i64 long, .slice A1 bs.length c1, .slice A2 ks.length c2] 54))
            clear hdk
            go_wp2_with (first | (go_at_call 15; (with_reducible refine (HDD.out _ HBA.out).mono ?_); rintro e w3 ⟨v3, t3, e3, rfl, hr3, hb3⟩; have HR3 := Aside0.mk hr3; have HB3 := Aside0.mk (bel_step HBA.out hb3); have hbx : w3.heap[wr.heap.size]? = some (.cells #[.int .i64 z, .int .i64 a, .int .i64 long, .slice A1 bs.length c1, .slice A2 ks.length c2] 54 (0, 0)) := BoxAt.below (boxed_at wr ⟨z, a, long, A1, c1, bs, A2, c2, ks⟩) hb3; have q0 := blk_cell hbx (i := 0) rfl; have q1 := blk_cell hbx (i := 1) rfl; have q2 := blk_cell hbx (i := 2) rfl; have q3 := blk_cell hbx (i := 3) rfl; have q4 := blk_cell hbx (i := 4) rfl; clear hr3 hb3 hbx) | (go_at_call 19; (with_reducible refine (HDS.out _ HB3.out).mono ?_); rintro e w4 ⟨rfl, hd4, hf4⟩; have HD4 := Aside0.mk hd4; have HF4 := Aside0.mk hf4; have HB4 := Aside0.mk ((bel_step HB.out HB3.out).trans (hf4.below _ (bel_step HB.out HB3.out).size (fun b hb => HV1.out b hb))); clear hd4 hf4))
            refine ⟨⟨k + 1, by omega, by go_num, ⟨?_⟩, ⟨?_⟩, HB4, ⟨Nat.le_trans (Nat.le_trans HS.out HB3.out.size) HF4.out.size⟩⟩, by simp [intOf]; omega⟩
            · rw [HRN.out]
              exact Kd.V_step HR3.out (fun j hj hlt => HF4.out.block j hlt (fun ho => absurd (HOW.out j ho) (Nat.not_lt.2 hj)))
            · rw [HRN.out]
              exact HD4.out
        · obtain rfl : k = os.length := by omega
          rw [List.take_length] at HD HRr
          have HLN := Aside0.mk (runD_len HDO.out (fun o ho => HW.out o (List.mem_of_mem_take ho)) (k := os.length))
          rw [List.take_length] at HLN
          go_wp2
          go_ret3
          exact .inr ⟨p, u, s, f, _, _, nn, w1.heap.size, rfl, HD.out, by rw [HLN.out]; exact H8.out, HRr.out, HOW.out, HS.out, HP1.out, HV1.out, HB.out⟩
theorem made4_calls (w : World) (A0 : Option Addr) (c0 : Nat) (B : List Int) (A : Option Addr) (c : Nat) (os : List OpP) (hB : ReadsInt w .u8 A0 B.length B) (hby : Bys B) (ho : PoK.C w A os.length os) (hw : ∀ o ∈ os, WfPo w o) (hck : ∀ o ∈ os, o.ks.length ≤ o.c2) : Calls Tryz.prog 4 #[.slice A0 B.length c0, .slice A os.length c] w (MadeW w) := by
  by_cases h : B.length % 8 = 0 ∧ B.length ≤ 65536
  · exact made4_good w A0 c0 B A c os hB hby ho hw hck (nn := B.length / 8) (by omega) (by omega)
  · exact made4_bad w A0 c0 B A c os hB hby ho hw hck (by omega)
end Go.Proofs.YtbfogcckbhkciaaGreat.Hand
namespace Go.Proofs.YtbfogcckbhkciaaGreat.Hand
set_option linter.unusedVariables false
set_option linter.unusedSimpArgs false
open Go.RowKit Go.Maps Go.Proofs.YtbfogcckbhkciaaGreatW.PrintWords Go.Proofs.YtbfogcckbhkciaaGreatW.PrintLast Go.Proofs.YtbfogcckbhkciaaGreat.PHandRP
set_option linter.unusedVariables false
set_option linter.unusedSimpArgs false
theorem reads64 {w : World} {base : Nat} {ok : Nat → Prop} {v : Value} {xs : List Int} (h : Kd.R (Kd.int .i64) 3 w base ok v xs) : ∃ A c, v = .slice A xs.length c ∧ ReadsInt w .i64 A xs.length xs := own_reads (Kd.own_of_R h)
set_option maxRecDepth 100000 in
set_option maxHeartbeats 2000000 in
theorem same4_calls (w : World) (p : Nat) (u : Value) (s f : Nat) (d : Dev) {b n : Nat} {v : Value} (h : HasD w p u s f d) (hv : RowV w b v d n) (hl : d.B.length = 8 * n) :
    Calls Tryz.prog 16 #[.pointer (some ⟨p, 0, none⟩), v] w fun e w' => e = .returned (.bool true) ∧ Below w.heap.size w w' := by
  have hn : n ≤ 8192 := by have := h.ok.max; omega
  obtain ⟨A, c, rfl⟩ := Kd.V_slice hv
  rw [wdL_length] at hv ⊢
  have HD := Aside0.mk h
  have HV := Aside0.mk hv
  have HL := Aside0.mk hl
  clear h hv hl
  go_enter Tryz.func16, Tryz.ntmps16
  go_wp2_with fail
  refine start_ (n := 14) (S := fun w' => True) (ds := []) #[false, false, false, false, false, false, false, false, false, false, false, false, false, false] (by kernel_rfl) rfl rfl trivial (fun hHeld => ?_)
  refine pure_ (i := 0) (N := some 5) (v := ?_) (a' := ?_) #[true, false, false, false, false, false, false, false, false, false, false, false, false, false] rfl rfl (by kernel_rfl) (fun _ _ _ h => h) (Or.inl ⟨by rfl, ?_⟩) ?_ ?_
  rotate_left
  · intro w'
    go_simp
    with_reducible rfl
  rotate_left
  · simp only [Act.put, List.setIfInBounds_toArray, List.set_cons_zero, List.set_cons_succ, i64_w, i32_w]
    rfl
  refine pure_ (i := 3) (N := some 8) (v := ?_) (a' := ?_) #[true, false, false, true, false, false, false, false, false, false, false, false, false, false] rfl rfl (by kernel_rfl) (fun _ _ _ h => h) (Or.inl ⟨by rfl, ?_⟩) ?_ ?_
  rotate_left
  · intro w'
    go_simp
    with_reducible rfl
  rotate_left
  · simp only [Act.put, List.setIfInBounds_toArray, List.set_cons_zero, List.set_cons_succ, i64_w, i32_w]
    rfl
  refine one_ (i := 1) (N := some 6) #[true, true, false, true, false, false, false, false, false, false, false, false, false, false] rfl rfl (by kernel_rfl) (by decide) (fun K hK => ?_)
  refine goes_ Tryz.func41 (by kernel_rfl) rfl #[.pointer (some ⟨p, 0, none⟩)] (by rfl) rfl rfl (by simp only [List.map_toArray, List.map_cons, List.map_nil]; rfl) ?_
  with_reducible refine (bytes_calls w.drew p u s f d (HD.out.move (Below.refl _ _).drew)).mono ?_
  rintro e w5 ⟨u5, rfl, hr5, hb5⟩
  refine ⟨_, rfl, ?_⟩
  obtain ⟨A5, c5, rfl, _, hR5⟩ := reads_own2 hr5
  have HR5 := Aside0.mk hR5
  have HB5 := Aside0.mk (bel_step (Below.refl w.heap.size w).drew hb5)
  clear hr5 hb5 hR5
  refine hK.out _ _ trivial (fun hHeld => ?_)
  clear hK K
  refine norm_ (a' := ?_) ?_ ?_
  rotate_left
  · show Act.put _ (some 6) _ = _
    simp only [Act.put, List.setIfInBounds_toArray, List.set_cons_zero, List.set_cons_succ, i64_w, i32_w]
    rfl
  refine join_ (σ := Unit) 9 #[true, true, true, true, true, false, false, false, false, false, false, false, false, false] (fun _ => [(7, .string (strOfNums d.B)), (9, .string (strOfNums d.B))]) (fun _ w' => Below w.heap.size w w') ?_ ?_
  rotate_left
  · intro hCont
    refine two_ (i := 2) (j := 4) (Ni := some 7) (Nj := some 9) #[true, true, true, true, false, false, false, false, false, false, false, false, false, false] #[true, true, false, true, true, false, false, false, false, false, false, false, false, false] rfl rfl rfl rfl (by kernel_rfl) (by decide) (by decide) (fun K hK => ?_) (fun K hK => ?_)
    · skip
      have hcv := conv_n (c := c5) HR5.out
      refine value_ (w1 := ?_) (v := ?_) (by rfl) rfl ?_ ?_
      rotate_left 2
      · go_simp
        constructor
        · rfl
        · rfl
      clear hcv
      refine hK.out _ _ trivial (fun hHeld => ?_)
      clear hK K
      refine norm_ (a' := ?_) ?_ ?_
      rotate_left
      · show Act.put _ (some 7) _ = _
        simp only [Act.put, List.setIfInBounds_toArray, List.set_cons_zero, List.set_cons_succ, i64_w, i32_w]
        rfl
      refine one_ (i := 4) (N := some 9) #[true, true, true, true, true, false, false, false, false, false, false, false, false, false] rfl rfl (by kernel_rfl) (by decide) (fun K hK => ?_)
      refine goes_ Tryz.func27 (by kernel_rfl) rfl #[.slice A n c] (by rfl) rfl rfl (by simp only [List.map_toArray, List.map_cons, List.map_nil]; rfl) ?_
      with_reducible refine (r3bytes_calls (Kd.V_below HV.out HB5.out) HL.out hn).mono ?_
      rintro e w6 ⟨rfl, hb6⟩
      refine ⟨_, rfl, ?_⟩
      have HB65 := Aside0.mk hb6.below
      have HB6 := Aside0.mk (bel_step HB5.out hb6.below)
      clear hb6
      refine hK.out _ _ trivial (fun hHeld => ?_)
      clear hK K
      refine norm_ (a' := ?_) ?_ ?_
      rotate_left
      · show Act.put _ (some 9) _ = _
        simp only [Act.put, List.setIfInBounds_toArray, List.set_cons_zero, List.set_cons_succ, i64_w, i32_w]
        rfl
      exact norm_ (by first | (simp only [putAll, Act.put, List.setIfInBounds_toArray, List.set_cons_zero, List.set_cons_succ]; done) | (simp only [putAll, Act.put, List.setIfInBounds_toArray, List.set_cons_zero, List.set_cons_succ]; rfl)) (hCont () _ HB6.out)
    · skip
      refine goes_ Tryz.func27 (by kernel_rfl) rfl #[.slice A n c] (by rfl) rfl rfl (by simp only [List.map_toArray, List.map_cons, List.map_nil]; rfl) ?_
      with_reducible refine (r3bytes_calls (Kd.V_below HV.out HB5.out) HL.out hn).mono ?_
      rintro e w6 ⟨rfl, hb6⟩
      refine ⟨_, rfl, ?_⟩
      have HB65 := Aside0.mk hb6.below
      have HB6 := Aside0.mk (bel_step HB5.out hb6.below)
      clear hb6
      refine hK.out _ _ trivial (fun hHeld => ?_)
      clear hK K
      refine norm_ (a' := ?_) ?_ ?_
      rotate_left
      · show Act.put _ (some 9) _ = _
        simp only [Act.put, List.setIfInBounds_toArray, List.set_cons_zero, List.set_cons_succ, i64_w, i32_w]
        rfl
      refine one_ (i := 2) (N := some 7) #[true, true, true, true, true, false, false, false, false, false, false, false, false, false] rfl rfl (by kernel_rfl) (by decide) (fun K hK => ?_)
      have hcv := conv_n (c := c5) (HR5.out.below HB65.out)
      refine value_ (w1 := ?_) (v := ?_) (by rfl) rfl ?_ ?_
      rotate_left 2
      · go_simp
        constructor
        · rfl
        · rfl
      clear hcv
      refine hK.out _ _ trivial (fun hHeld => ?_)
      clear hK K
      refine norm_ (a' := ?_) ?_ ?_
      rotate_left
      · show Act.put _ (some 7) _ = _
        simp only [Act.put, List.setIfInBounds_toArray, List.set_cons_zero, List.set_cons_succ, i64_w, i32_w]
        rfl
      exact norm_ (by first | (simp only [putAll, Act.put, List.setIfInBounds_toArray, List.set_cons_zero, List.set_cons_succ]; done) | (simp only [putAll, Act.put, List.setIfInBounds_toArray, List.set_cons_zero, List.set_cons_succ]; rfl)) (hCont () _ HB6.out)
  rintro _ wJ hbJ
  have HBJ := Aside0.mk hbJ
  clear hbJ
  have hHeld : True := trivial
  refine norm_ (a' := ?_) ?_ ?_
  rotate_left
  · simp only [putAll, Act.put, List.setIfInBounds_toArray, List.set_cons_zero, List.set_cons_succ]
    rfl
  refine pure_ (i := 5) (N := some 10) (v := ?_) (a' := ?_) #[true, true, true, true, true, true, false, false, false, false, false, false, false, false] rfl rfl (by kernel_rfl) (fun _ _ _ h => h) (Or.inl ⟨by rfl, ?_⟩) ?_ ?_
  rotate_left
  · intro w'
    go_simp
    with_reducible rfl
  rotate_left
  · simp only [Act.put, List.setIfInBounds_toArray, List.set_cons_zero, List.set_cons_succ, i64_w, i32_w]
    rfl
  refine pure_ (i := 6) (N := some 11) (v := ?_) (a' := ?_) #[true, true, true, true, true, true, true, false, false, false, false, false, false, false] rfl rfl (by kernel_rfl) (fun _ _ _ h => h) (Or.inl ⟨by rfl, ?_⟩) ?_ ?_
  rotate_left
  · intro w'
    go_simp
    with_reducible rfl
  rotate_left
  · simp only [Act.put, List.setIfInBounds_toArray, List.set_cons_zero, List.set_cons_succ, i64_w, i32_w]
    rfl
  refine pure_ (i := 7) (N := some 12) (v := ?_) (a' := ?_) #[true, true, true, true, true, true, true, true, false, false, false, false, false, false] rfl rfl (by kernel_rfl) (fun _ _ _ h => h) (Or.inl ⟨by rfl, ?_⟩) ?_ ?_
  rotate_left
  · intro w'
    go_simp
    with_reducible rfl
  rotate_left
  · simp only [Act.put, List.setIfInBounds_toArray, List.set_cons_zero, List.set_cons_succ, i64_w, i32_w]
    rfl
  refine pure_ (i := 9) (N := some 14) (v := ?_) (a' := ?_) #[true, true, true, true, true, true, true, true, false, true, false, false, false, false] rfl rfl (by kernel_rfl) (fun _ _ _ h => h) (Or.inl ⟨by rfl, ?_⟩) ?_ ?_
  rotate_left
  · intro w'
    go_simp
    with_reducible rfl
  rotate_left
  · simp only [Act.put, List.setIfInBounds_toArray, List.set_cons_zero, List.set_cons_succ, i64_w, i32_w]
    rfl
  refine one_ (i := 8) (N := some 13) #[true, true, true, true, true, true, true, true, true, true, false, false, false, false] rfl rfl (by kernel_rfl) (by decide) (fun K hK => ?_)
  refine goes_ Tryz.func43 (by kernel_rfl) rfl #[.pointer (some ⟨p, 0, none⟩)] (by rfl) rfl rfl (by simp only [List.map_toArray, List.map_cons, List.map_nil]; rfl) ?_
  with_reducible refine (loose_calls wJ p u s f d (HD.out.move HBJ.out)).mono ?_
  rintro e w7 ⟨u7, rfl, hr7, hb7⟩
  refine ⟨_, rfl, ?_⟩
  obtain ⟨A7, c7, rfl, hR7⟩ := reads64 hr7
  have HR7 := Aside0.mk hR7
  have HB7 := Aside0.mk (bel_step HBJ.out hb7)
  clear hr7 hb7 hR7
  refine hK.out _ _ trivial (fun hHeld => ?_)
  clear hK K
  refine norm_ (a' := ?_) ?_ ?_
  rotate_left
  · show Act.put _ (some 13) _ = _
    simp only [Act.put, List.setIfInBounds_toArray, List.set_cons_zero, List.set_cons_succ, i64_w, i32_w]
    rfl
  refine one_ (i := 10) (N := some 15) #[true, true, true, true, true, true, true, true, true, true, true, false, false, false] rfl rfl (by kernel_rfl) (by decide) (fun K hK => ?_)
  refine goes_ Tryz.func44 (by kernel_rfl) rfl #[.slice A n c] (by rfl) rfl rfl (by simp only [List.map_toArray, List.map_cons, List.map_nil]; rfl) ?_
  with_reducible refine (r3loose_calls (Kd.V_below HV.out HB7.out) HL.out hn).mono ?_
  rintro e w8 ⟨u8, rfl, hr8, hb8⟩
  refine ⟨_, rfl, ?_⟩
  obtain ⟨A8, c8, rfl, hR8⟩ := reads64 hr8
  have HR8 := Aside0.mk hR8
  have HR78 := Aside0.mk (HR7.out.below hb8)
  have HB8 := Aside0.mk (bel_step HB7.out hb8)
  clear hr8 hb8 hR8
  refine hK.out _ _ trivial (fun hHeld => ?_)
  clear hK K
  refine norm_ (a' := ?_) ?_ ?_
  rotate_left
  · show Act.put _ (some 15) _ = _
    simp only [Act.put, List.setIfInBounds_toArray, List.set_cons_zero, List.set_cons_succ, i64_w, i32_w]
    rfl
  refine one_ (i := 11) (N := some 16) #[true, true, true, true, true, true, true, true, true, true, true, true, false, false] rfl rfl (by kernel_rfl) (by decide) (fun K hK => ?_)
  refine goes_ Tryz.func42 (by kernel_rfl) rfl #[.slice A7 (looseM d).length c7, .slice A8 (looseM d).length c8] (by rfl) rfl rfl (by simp only [List.map_toArray, List.map_cons, List.map_nil]; rfl) ?_
  with_reducible refine (same_calls A7 A8 c7 c8 (looseM d) (looseM d) w8 HR78.out HR8.out).mono ?_
  rintro e w9 ⟨rfl, hb9⟩
  refine ⟨_, rfl, ?_⟩
  have HB9 := Aside0.mk (bel_step HB8.out hb9)
  clear hb9
  refine hK.out _ _ trivial (fun hHeld => ?_)
  clear hK K
  refine norm_ (a' := ?_) ?_ ?_
  rotate_left
  · show Act.put _ (some 16) _ = _
    simp only [Act.put, List.setIfInBounds_toArray, List.set_cons_zero, List.set_cons_succ, i64_w, i32_w]
    rfl
  refine pure_ (i := 12) (N := some 17) (v := ?_) (a' := ?_) #[true, true, true, true, true, true, true, true, true, true, true, true, true, false] rfl rfl (by kernel_rfl) (fun _ _ _ h => h) (Or.inl ⟨by rfl, ?_⟩) ?_ ?_
  rotate_left
  · intro w'
    go_simp
    with_reducible rfl
  rotate_left
  · simp only [Act.put, List.setIfInBounds_toArray, List.set_cons_zero, List.set_cons_succ, i64_w, i32_w]
    rfl
  refine pure_ (i := 13) (N := some 4) (v := ?_) (a' := ?_) #[true, true, true, true, true, true, true, true, true, true, true, true, true, true] rfl rfl (by kernel_rfl) (fun _ _ _ h => h) (Or.inl ⟨by rfl, ?_⟩) ?_ ?_
  rotate_left
  · intro w'
    go_simp
    with_reducible rfl
  rotate_left
  · simp only [Act.put, List.setIfInBounds_toArray, List.set_cons_zero, List.set_cons_succ, i64_w, i32_w]
    rfl
  refine done_ (by kernel_rfl) ?_
  go_wp2
  go_ret
  refine ⟨?_, HB9.out⟩
  first
    | rfl
    | simp
end Go.Proofs.YtbfogcckbhkciaaGreat.Hand
namespace Go.Proofs.YtbfogcckbhkciaaGreat.Hand
set_option linter.unusedVariables false
set_option linter.unusedSimpArgs false
open Go.RowKit Go.ChangeShapes Go.WideShapes Go.ChangeAt Go.Proofs.YtbfogcckbhkciaaGreatW.PrintWords
set_option linter.unusedVariables false
theorem cap_le {H : Type} {enc : TypeId × Value → H} {W : World} {spare : Nat → Bool} {held : Bool} {t e : TypeId} (ht : Tryz.prog.underlying t = some (.slice e)) {n len cap : Nat} {a : Option Addr} {y : DataW H × List MemPlace}
    (hf : DataW.trod enc Tryz.prog W 0 spare held n t [.slice a len cap] = some y) : len ≤ cap := by
  rcases Go.Deep.open_slice ht hf with ⟨hcs, _⟩ | ⟨x, l, c, m, n, D, Pl, hcs, _, hl, _⟩
  · simp at hcs
    omega
  · simp at hcs
    omega
theorem po_cells2 {H : Type} {enc : TypeId × Value → H} {w : World} {spare : Nat → Bool} {held : Bool} {n : Nat} {cs : List Value} {y : DataW H × List MemPlace} (h : DataW.trod enc Tryz.prog w 0 spare held n 54 cs = some y) : ∃ x : OpP, cs = encPo x ∧ (WfPo w x ∧ x.ks.length ≤ x.c2) := by
  obtain ⟨x, rfl, hw⟩ := po_cells h
  refine ⟨x, rfl, hw, ?_⟩
  obtain ⟨xs, m, _, rfl, hlen, hxs, hf⟩ := DataW.trod_struct Tryz.underlying54 h
  have h4 : DataW.trod enc Tryz.prog w 0 spare held m 52 (((encPo x).drop 4).take (Tryz.prog.cellsOf 52)) = xs[4]? := hf 4 _ rfl
  obtain ⟨y4, e4⟩ : ∃ y0, xs[4]? = some y0 := ⟨_, List.getElem?_eq_getElem (by rw [hxs]; decide)⟩
  rw [e4, show Tryz.prog.cellsOf 52 = 1 by kernel_rfl] at h4
  exact cap_le Tryz.underlying52 h4
theorem open_pops2 {H : Type} {enc : TypeId × Value → H} {w : World} {spare : Nat → Bool} {held : Bool} {A : Option Addr} {len cap : Nat} {d : DataW H} {ps : List MemPlace}
    (h : DataW.Trod enc Tryz.prog w 0 spare held 23 (.slice A len cap) d ps) : ∃ os : List OpP, len = os.length ∧ PoK.C w A os.length os ∧ ∀ o ∈ os, WfPo w o ∧ o.ks.length ≤ o.c2 :=
  open_flat Tryz.underlying23 (by kernel_rfl) (fun n cs y h => po_cells2 h) h
end Go.Proofs.YtbfogcckbhkciaaGreat.Hand
namespace Go.Proofs.YtbfogcckbhkciaaGreat.Hand
set_option linter.unusedVariables false
set_option linter.unusedSimpArgs false
open Go.RowKit Go.ChangeShapes Go.WideShapes Go.ChangeAt Go.Proofs.YtbfogcckbhkciaaGreatW.PrintWords
set_option linter.unusedVariables false
structure SeatP where
  A0 : Option Addr
  c0 : Nat
  B : List Int
  A1 : Option Addr
  c1 : Nat
  os : List OpP
  a : Int
  k : Int
def encSeat (x : SeatP) : List Value := [.slice x.A0 x.B.length x.c0, .slice x.A1 x.os.length x.c1, .int .i64 x.a, .int .i64 x.k]
structure WfSeat (w : World) (x : SeatP) : Prop where
  rb : ReadsInt w .u8 x.A0 x.B.length x.B
  by_ : Bys x.B
  ro : PoK.C w x.A1 x.os.length x.os
  wo : ∀ o ∈ x.os, WfPo w o ∧ o.ks.length ≤ o.c2
  ha : -9223372036854775808 ≤ x.a ∧ x.a ≤ 9223372036854775807
  hk : -9223372036854775808 ≤ x.k ∧ x.k ≤ 9223372036854775807
theorem list4s {α : Type} {l : List α} (h : l.length = 4) : ∃ a b c d, l = [a, b, c, d] := by
  match l, h with
  | [a, b, c, d], _ => exact ⟨a, b, c, d, rfl⟩
set_option maxRecDepth 100000 in
theorem open_seat {H : Type} {enc : TypeId × Value → H} {w : World} {spare : Nat → Bool} {held : Bool} {r : Reach} {b0 : Nat} {v : Value} {d : DataW H} {ps : List MemPlace}
    (hv : Value.okWide Tryz.prog w r b0 27 v) (h : DataW.Trod enc Tryz.prog w 0 spare held 27 v d ps) : ∃ x : SeatP, v = .agg (encSeat x).toArray ∧ WfSeat w x := by
  obtain ⟨cs, rfl, hsz⟩ := okWide_struct Tryz.underlying27 hv
  obtain ⟨fuel, hf⟩ := h
  have hf0 : DataW.trod enc Tryz.prog w 0 spare held fuel 27 cs.toList = some (d, ps) := hf
  obtain ⟨xs, m, _, _, hlen, hxs, hf⟩ := DataW.trod_struct Tryz.underlying27 hf0
  obtain ⟨a, b, c, e, hcs⟩ := list4s (hlen.trans (show Tryz.prog.cellsOf 27 = 4 by kernel_rfl))
  rw [hcs] at hf
  have h0 : DataW.trod enc Tryz.prog w 0 spare held m 22 (([a, b, c, e].drop 0).take (Tryz.prog.cellsOf 22)) = xs[0]? := hf 0 _ rfl
  have h1 : DataW.trod enc Tryz.prog w 0 spare held m 23 (([a, b, c, e].drop 1).take (Tryz.prog.cellsOf 23)) = xs[1]? := hf 1 _ rfl
  have h2 : DataW.trod enc Tryz.prog w 0 spare held m 25 (([a, b, c, e].drop 2).take (Tryz.prog.cellsOf 25)) = xs[2]? := hf 2 _ rfl
  obtain ⟨y0, e0⟩ : ∃ y0, xs[0]? = some y0 := ⟨_, List.getElem?_eq_getElem (by rw [hxs]; decide)⟩
  obtain ⟨y1, e1⟩ : ∃ y0, xs[1]? = some y0 := ⟨_, List.getElem?_eq_getElem (by rw [hxs]; decide)⟩
  obtain ⟨y2, e2⟩ : ∃ y0, xs[2]? = some y0 := ⟨_, List.getElem?_eq_getElem (by rw [hxs]; decide)⟩
  rw [e0] at h0
  rw [e1] at h1
  rw [e2] at h2
  rw [show Tryz.prog.cellsOf 22 = 1 by kernel_rfl] at h0
  rw [show Tryz.prog.cellsOf 23 = 1 by kernel_rfl] at h1
  rw [show Tryz.prog.cellsOf 25 = 2 by kernel_rfl] at h2
  simp only [List.drop_succ_cons, List.drop_zero, List.take_succ_cons, List.take_zero] at h0 h1 h2
  obtain ⟨A0, n0, c0, rfl⟩ := okSlice Tryz.underlying22 h0
  obtain ⟨A1, n1, c1, rfl⟩ := okSlice Tryz.underlying23 h1
  obtain ⟨B, rfl, rb, hb, _⟩ := open_u8s h0
  obtain ⟨os, rfl, ro, wo⟩ := open_pops2 ⟨_, h1⟩
  obtain ⟨zs, m2, _, _, hlen2, hzs, hg⟩ := DataW.trod_struct Tryz.underlying25 h2
  have g0 : DataW.trod enc Tryz.prog w 0 spare held m2 3 (([c, e].drop 0).take (Tryz.prog.cellsOf 3)) = zs[0]? := hg 0 _ rfl
  have g1 : DataW.trod enc Tryz.prog w 0 spare held m2 3 (([c, e].drop 1).take (Tryz.prog.cellsOf 3)) = zs[1]? := hg 1 _ rfl
  obtain ⟨u0, f0⟩ : ∃ y0, zs[0]? = some y0 := ⟨_, List.getElem?_eq_getElem (by rw [hzs]; decide)⟩
  obtain ⟨u1, f1⟩ : ∃ y0, zs[1]? = some y0 := ⟨_, List.getElem?_eq_getElem (by rw [hzs]; decide)⟩
  rw [f0] at g0
  rw [f1] at g1
  rw [show Tryz.prog.cellsOf 3 = 1 by kernel_rfl] at g0 g1
  obtain ⟨q0, k0, _, w0⟩ := DataW.trod_int Tryz.underlying3 g0
  obtain ⟨q1, k1, _, w1⟩ := DataW.trod_int Tryz.underlying3 g1
  simp at k0 k1
  subst k0 k1
  exact ⟨⟨A0, c0, B, A1, c1, os, q0, q1⟩, congrArg Value.agg (by rw [encSeat, ← hcs]), ⟨rb, hb, ro, wo, wf_i64 w0, wf_i64 w1⟩⟩
end Go.Proofs.YtbfogcckbhkciaaGreat.Hand
namespace Go.Proofs.YtbfogcckbhkciaaGreat.Hand
set_option linter.unusedVariables false
set_option linter.unusedSimpArgs false
open Go.RowKit Go.Proofs.YtbfogcckbhkciaaGreatW.PrintWords
set_option linter.unusedVariables false
theorem list2 {α : Type} {l : List α} (h : l.length = 2) : ∃ a b, l = [a, b] := by
  match l, h with
  | [a, b], _ => exact ⟨a, b, rfl⟩
theorem set_el {H : Type} {enc : TypeId × Value → H} {w : World} {spare : Nat → Bool} {held : Bool} : ∀ n cs y, DataW.trod enc Tryz.prog w 0 spare held n 81 cs = some y → ∃ x : SetT, cs = encSt x ∧ WfSt x := by
  intro n cs y h
  obtain ⟨z0, z1, m2, _, hlen, g0, g1⟩ := Go.ChangeShapes.trod_struct2 Tryz.underlying81 h
  obtain ⟨a, b, rfl⟩ := list2 (hlen.trans (show Tryz.prog.cellsOf 81 = 2 by kernel_rfl))
  rw [show Tryz.prog.cellsOf 3 = 1 by kernel_rfl] at g0
  simp only [show Tryz.prog.cellsOf 64 = 1 by kernel_rfl] at g1
  obtain ⟨s, e1, _, w1⟩ := DataW.trod_int Tryz.underlying3 g0
  obtain ⟨g, e2, _, w2⟩ := DataW.trod_int Tryz.underlying64 g1
  simp at e1 e2
  subst e1 e2
  exact ⟨(s, g), rfl, (wf_i64 w1).1, (wf_i64 w1).2, (wf_u64 w2).1, (wf_u64 w2).2⟩
theorem open_sets {H : Type} {enc : TypeId × Value → H} {w : World} {spare : Nat → Bool} {held : Bool} {A : Option Addr} {len cap : Nat} {d : DataW H} {ps : List MemPlace}
    (h : DataW.Trod enc Tryz.prog w 0 spare held 28 (.slice A len cap) d ps) : ∃ sets : List SetT, len = sets.length ∧ SetK.C w A sets.length sets ∧ ∀ s ∈ sets, WfSt s :=
  open_flat Tryz.underlying28 (by kernel_rfl) set_el h
end Go.Proofs.YtbfogcckbhkciaaGreat.Hand
