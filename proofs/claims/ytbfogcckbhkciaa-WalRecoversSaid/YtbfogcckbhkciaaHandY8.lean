/- What a claim needs of the walks and contracts, part 8. -/
import Derived.Test.YtbfogcckbhkciaaHandY7
namespace Go.Proofs.Ytbfogcckbhkciaa.Hand
open Go.RowKit Go.Maps Go.Proofs.YtbfogcckbhkciaaW.PrintWords Go.Proofs.YtbfogcckbhkciaaW.PrintLast Go.Proofs.Ytbfogcckbhkciaa.PHandRP
set_option linter.unusedVariables false
set_option linter.unusedSimpArgs false
theorem rflushed_calls (w : World) (a k : Nat) (ha : a ≤ 8192) (hk : k ≤ 8192) :
    Calls Try.prog 83 #[.int .i64 a, .int .i64 k] w fun e w' => e = .returned (.agg #[.int .i64 2, .int .i64 (8 * (a : Int)), .int .i64 (8 * (k : Int)), .slice none 0 0, .slice none 0 0]) ∧ Below w.heap.size w w' := by
  have e1 : IntKind.i64.wrap (8 * (a : Int)) = 8 * a := IntWalk.i64_in _ (by omega)
  have e2 : IntKind.i64.wrap (8 * (k : Int)) = 8 * k := IntWalk.i64_in _ (by omega)
  go_enter Try.func83, Try.ntmps83
  go_wp2
  refine bodyPost_ret (results_cell_row rfl _ _ w.heap.size _ _ _ _ rfl (heap_alloc_new w _) Try.underlying26 rfl (by kernel_rfl)) rfl ?_
  exact ⟨rfl, below_alloc (Below.refl _ _) _⟩
set_option maxRecDepth 100000 in
theorem rputop_calls (w : World) (a : Nat) (ha : a ≤ 8192) (l : List Int) (hb : Bys l) (hl : l.length = 8) :
    Calls Try.prog 81 #[.int .i64 a, .string (strOfNums l)] w fun e w' => ∃ g c, e = .returned (.agg #[.int .i64 0, .int .i64 (8 * (a : Int)), .int .i64 0, .slice (some ⟨g, 0, none⟩) 8 c, .slice none 0 0]) ∧ 8 ≤ c ∧ ReadsInt w' .u8 (some ⟨g, 0, none⟩) 8 l ∧ Below w.heap.size w w' := by
  have e1 : IntKind.i64.wrap (8 * (a : Int)) = 8 * a := IntWalk.i64_in _ (by omega)
  have kb := fun W => print_bytes (P := Try.prog) 9 23 5 Try.underlying9 Try.underlying23 Try.underlying5 (strOfNums l) W
  have hsz : (strOfNums l).size = 8 := by rw [strOfNums_size, hl]
  have HRD := Aside0.mk (fun (W : World) => bytes_reads W 5 (strOfNums l) (by rw [hsz]; omega))
  have HBL := Aside0.mk (fun (W : World) => bytes_below (Below.refl W.heap.size W) (Nat.le_refl _) 5 (strOfNums l))
  have HCP := Aside0.mk (fun (W : World) => grownCap_ge W (strOfNums l).size 0 5)
  rw [hsz] at kb HRD HCP
  rw [bytes_str hb] at HRD
  obtain ⟨wz, hwz⟩ : ∃ wz, wz = w.alloc (.cells #[.int .i64 0, .int .i64 0, .int .i64 0, .slice none 0 0, .slice none 0 0] 26) := ⟨_, rfl⟩
  obtain ⟨wb, hwb⟩ : ∃ wb, wb = Lib.bytesWorld wz 5 (strOfNums l) := ⟨_, rfl⟩
  have hz : wb.heap[w.heap.size]? = some (.cells #[.int .i64 0, .int .i64 0, .int .i64 0, .slice none 0 0, .slice none 0 0] 26 (0, 0)) := by
    rw [hwb, Lib.bytesWorld_at_old _ _ _ _ (by rw [hwz, World.size_alloc]; omega), hwz]
    exact heap_alloc_new w _
  have HZ := Aside0.mk hz
  have z0 := blk_cell hz (i := 0) rfl
  have z1 := blk_cell hz (i := 1) rfl
  have z2 := blk_cell hz (i := 2) rfl
  have z3 := blk_cell hz (i := 3) rfl
  have z4 := blk_cell hz (i := 4) rfl
  have f0 := blk_free hz 0
  have f1 := blk_free hz 1
  have f2 := blk_free hz 2
  have f3 := blk_free hz 3
  have f4 := blk_free hz 4
  have HR := Aside0.mk (show ReadsInt wb .u8 (some ⟨w.heap.size + 1, 0, none⟩) 8 l from by
    have := HRD.out wz
    rw [← hwb, hwz, World.size_alloc] at this
    exact this)
  have HB := Aside0.mk (show Below w.heap.size w wb from by
    have h1 := HBL.out wz
    rw [← hwb] at h1
    exact bel_step (by rw [hwz]; exact below_alloc (Below.refl _ _) _) h1)
  have HC := Aside0.mk (HCP.out wz)
  have kb1 := kb wz
  rw [← hwb] at kb1
  rw [hwz, World.size_alloc] at kb1
  clear kb hz hwb
  go_enter Try.func81, Try.ntmps81
  go_wp2
  refine bodyPost_ret (results_cell_row rfl _ _ w.heap.size _ _ _ _ rfl (blk_set (blk_set (blk_set (blk_set (blk_set HZ.out 0 _) 1 _) 2 _) 3 _) 4 _) Try.underlying26 rfl (by kernel_rfl)) rfl ?_
  have hc := HC.out
  rw [hwz] at hc
  refine ⟨w.heap.size + 1, _, rfl, hc, ?_, ?_⟩
  · exact reads_frA HR.out ((((((Fr.refl (fun b => b = w.heap.size) wb).setCell (p := ⟨w.heap.size, 0, none⟩) (.inl rfl) _).setCell (p := ⟨w.heap.size, 1, none⟩) (.inl rfl) _).setCell (p := ⟨w.heap.size, 2, none⟩) (.inl rfl) _).setCell (p := ⟨w.heap.size, 3, none⟩) (.inl rfl) _).setCell (p := ⟨w.heap.size, 4, none⟩) (.inl rfl) _) (fun _ ad e h => by obtain rfl := Option.some.inj e; have h1 : w.heap.size + 1 = w.heap.size := h; omega)
  · exact ((((HB.out.setCell (p := ⟨w.heap.size, 0, none⟩) (Nat.le_refl _) _).setCell (p := ⟨w.heap.size, 1, none⟩) (Nat.le_refl _) _).setCell (p := ⟨w.heap.size, 2, none⟩) (Nat.le_refl _) _).setCell (p := ⟨w.heap.size, 3, none⟩) (Nat.le_refl _) _).setCell (p := ⟨w.heap.size, 4, none⟩) (Nat.le_refl _) _
def DoE (w : World) (b n : Nat) (d : Dev) (e : Ending) (w' : World) : Prop := ∃ (v' : Value) (t : ByteArray) (e2 : Int), e = .returned (.tuple #[v', .string t, .int .i64 e2]) ∧ RowV w' b v' d n ∧ Below w.heap.size w w'
theorem no_reads {q : IntKind} (w : World) : ReadsInt w q none 0 [] := ⟨rfl, by omega, fun h => absurd h (by omega)⟩
section
variable {w : World} {b n : Nat} {v : Value} {d : Dev}
theorem rdo_put (hd : d.Ok) (hl : d.B.length = 8 * n) (h : RowV w b v d n) (hb : b ≤ w.heap.size) (i : Nat) (hi : i < n) (l : List Int) (hlen : l.length = 8) (hby : Bys l) (g c : Nat) (hc : 8 ≤ c) (hr : ReadsInt w .u8 (some ⟨g, 0, none⟩) 8 l) :
    Calls Try.prog 58 #[v, .agg #[.int .i64 0, .int .i64 (8 * (i : Int)), .int .i64 0, .slice (some ⟨g, 0, none⟩) 8 c, .slice none 0 0]] w (DoE w b n (d.step (.wr (8 * i) l))) := by
  have hm := hd.max
  have hs : stepD d ⟨0, 8 * (i : Int), 0, some ⟨g, 0, none⟩, c, l, none, 0, []⟩ = d.step (.wr (8 * i) l) := by
    have he : insE d.B.length (8 * (i : Int)) (l.length : Int) = 0 := by
      rw [hlen, insE, if_neg (by omega), if_neg (by omega)]
    simp only [stepD, Dev.step]
    rw [if_pos trivial, if_pos he, if_pos (by omega), show (8 * (i : Int)).toNat = 8 * i by omega]
  have := r3do_calls hd hl h hb ⟨0, 8 * (i : Int), 0, some ⟨g, 0, none⟩, c, l, none, 0, []⟩ ⟨by rw [hlen]; exact hr, hby, by rw [hlen]; exact hc, no_reads w, by simp, ⟨by show _ ≤ 8 * (i : Int); omega, by show 8 * (i : Int) ≤ _; omega⟩, by simp⟩ (Nat.le_refl _) (by simp)
  rw [hs] at this
  simp only [hlen] at this
  exact this
theorem rdo_flush (hd : d.Ok) (hl : d.B.length = 8 * n) (h : RowV w b v d n) (hb : b ≤ w.heap.size) (i m : Nat) (hi : i + m ≤ n) :
    Calls Try.prog 58 #[v, .agg #[.int .i64 2, .int .i64 (8 * (i : Int)), .int .i64 (8 * (m : Int)), .slice none 0 0, .slice none 0 0]] w (DoE w b n (d.step (.fl (8 * i) (8 * m)))) := by
  have hm := hd.max
  have hs : stepD d ⟨2, 8 * (i : Int), 8 * (m : Int), none, 0, [], none, 0, []⟩ = d.step (.fl (8 * i) (8 * m)) := by
    have he : insE d.B.length (8 * (i : Int)) (8 * (m : Int)) = 0 := by
      rw [insE, if_neg (by omega), if_neg (by omega)]
    simp only [stepD, Dev.step]
    rw [if_neg (by decide), if_pos trivial, if_pos he, if_pos (by omega), show (8 * (i : Int)).toNat = 8 * i by omega, show (8 * (m : Int)).toNat = 8 * m by omega]
  have := r3do_calls hd hl h hb ⟨2, 8 * (i : Int), 8 * (m : Int), none, 0, [], none, 0, []⟩ ⟨no_reads w, fun x hx => by simp at hx, Nat.le_refl _, no_reads w, by simp, ⟨by show _ ≤ 8 * (i : Int); omega, by show 8 * (i : Int) ≤ _; omega⟩, ⟨by show _ ≤ 8 * (m : Int); omega, by show 8 * (m : Int) ≤ _; omega⟩⟩ (Nat.le_refl _) (by simp)
  rw [hs] at this
  exact this
theorem rdo_flush1 (hd : d.Ok) (hl : d.B.length = 8 * n) (h : RowV w b v d n) (hb : b ≤ w.heap.size) (i : Nat) (hi : i < n) :
    Calls Try.prog 58 #[v, .agg #[.int .i64 2, .int .i64 (8 * (i : Int)), .int .i64 8, .slice none 0 0, .slice none 0 0]] w (DoE w b n (d.step (.fl (8 * i) (8 * 1)))) := rdo_flush hd hl h hb i 1 (by omega)
theorem rdo_fence (hd : d.Ok) (hl : d.B.length = 8 * n) (h : RowV w b v d n) (hb : b ≤ w.heap.size) :
    Calls Try.prog 58 #[v, .agg #[.int .i64 3, .int .i64 0, .int .i64 0, .slice none 0 0, .slice none 0 0]] w (DoE w b n (d.step .fe)) := by
  have hs : stepD d ⟨3, 0, 0, none, 0, [], none, 0, []⟩ = d.step .fe := by simp [stepD, Dev.step]
  have := r3do_calls hd hl h hb ⟨3, 0, 0, none, 0, [], none, 0, []⟩ ⟨no_reads w, fun x hx => by simp at hx, Nat.le_refl _, no_reads w, by decide, by decide, by decide⟩ (Nat.le_refl _) (by decide)
  rw [hs] at this
  exact this
end
theorem rec_zero {n a k : Nat} {b : List Int} (h : ¬ 0 < (recB n a k b).1) : (recB n a k b).2 = [] := by
  unfold recB at h ⊢
  split
  · rfl
  · rename_i hg
    rw [if_neg hg] at h
    split
    · rfl
    · rename_i h2
      rw [if_neg h2] at h
      split
      · rename_i h3
        rw [if_pos h3] at h
        simp only [BadH] at hg
        have : 0 < seqB b := by omega
        exact absurd this h
      · rfl
theorem recover_is (d : Dev) (a k : Nat) : recoverD d a k = if 0 < (recD d a k).1 then (setsD d (recD d a k).2).step .fe else setsD d (recD d a k).2 := by
  rw [recoverD]
  split
  · rfl
  · rename_i h
    rw [recD] at h ⊢
    rw [rec_zero h]
    rfl
theorem okSt_range {n a k : Nat} {s : SetT} (h : OkSt n a k s) : 0 ≤ s.1 ∧ s.1 < n ∧ 0 ≤ s.2 ∧ s.2 < 18446744073709551616 := by
  have h1 := may_range h.may
  exact ⟨h1.1, h1.2, h.n0, h.n1⟩
theorem setsD_ok {d : Dev} (hd : d.Ok) {n : Nat} (hl : d.B.length = 8 * n) (l : List SetT) : (setsD d l).Ok ∧ (setsD d l).B.length = 8 * n := by
  induction l generalizing d with
  | nil => exact ⟨hd, hl⟩
  | cons s l ih =>
    have h1 := Dev.step_ok hd (m := .wr (8 * s.1.toNat) (leB s.2 8)) (leB_bysq _ _)
    have h2 := Dev.step_ok h1.1 (m := .fl (8 * s.1.toNat) (8 * 1)) trivial
    exact ih (d := setD d s) h2.1 (h2.2.trans (h1.2.trans hl))
set_option maxRecDepth 100000 in
set_option maxHeartbeats 4000000 in
theorem rrecover_calls (w : World) (b0 n : Nat) (v : Value) (d : Dev) (a k : Nat) (hd : d.Ok) (hl : d.B.length = 8 * n) (h : RowV w b0 v d n) (h1 : 1 ≤ k) (hak : a + k ≤ n) (hb : b0 ≤ w.heap.size) : Calls Try.prog 40 #[v, .agg #[.int .i64 a, .int .i64 k]] w fun e w' => ∃ v', e = .returned (.tuple #[v', .int .i64 (recD d a k).1]) ∧ RowV w' b0 v' (recoverD d a k) n ∧ Below w.heap.size w w' := by
  have hn : n ≤ 8192 := by have := hd.max; omega
  have HHS := Aside0.mk (fun (W : World) (hW : Below w.heap.size w W) => rhas_calls W b0 n v d a k hd hl (Kd.V_below h hW) h1 hak)
  have HV0 := Aside0.mk h
  have HD := Aside0.mk hd
  have HL := Aside0.mk hl
  have HB0 := Aside0.mk hb
  have HSS := Aside0.mk (recD_sets hd h1 (by rw [hl, Nat.mul_div_cancel_left _ (by decide)]; exact hak))
  have HRI := Aside0.mk (recover_is d a k)
  rw [HRI.out]
  obtain ⟨q, sets, hqs⟩ : ∃ q sets, recD d a k = (q, sets) := ⟨_, _, rfl⟩
  rw [hqs] at HHS HSS ⊢
  simp only at HSS ⊢
  obtain ⟨D2, hD2⟩ : ∃ D2, D2 = if 0 < q then (setsD d sets).step .fe else setsD d sets := ⟨_, rfl⟩
  have HE := Aside0.mk hD2
  rw [← hD2]
  have hsl : sets.length ≤ 8192 := by have := HSS.out.2.2.2.1; omega
  clear h hd hl hb hqs HRI hD2
  go_enter Try.func40, Try.ntmps40
  go_wp2_with (go_at_call 80; ((with_reducible refine (HHS.out _ (below_alloc (Below.refl _ _) _)).mono ?_); rintro e w1 ⟨u1, rfl, hr1, hb1⟩; obtain ⟨A5, c5, rfl, _, hC5⟩ := flat_reads hr1; have HC5 := Aside0.mk hC5; have HB1 := Aside0.mk (bel_step (below_alloc (Below.refl w.heap.size w) _) hb1); clear hr1 hC5 hb1))
  go_loopw [0, 8] (fun dv iv wr => ∃ j : Nat, j ≤ sets.length ∧ iv = .int .i64 j ∧ Aside0 (RowV wr b0 dv (setsD d (sets.take j)) n) ∧ Aside0 (Below w1.heap.size w1 wr)) (fun _ i _ => (sets.length - intOf i).toNat)
  case atStart => exact ⟨0, Nat.zero_le _, rfl, ⟨Kd.V_below HV0.out HB1.out⟩, ⟨Below.refl _ _⟩⟩
  case round =>
    obtain ⟨j, hj, rfl, HV, HB⟩ := hrel
    have HBW := Aside0.mk (bel_step HB1.out HB.out)
    by_cases hlt : j < sets.length
    · obtain ⟨x, hx⟩ : ∃ x, sets[j]? = some x := ⟨_, List.getElem?_eq_getElem hlt⟩
      obtain ⟨bb, ob, hA, hcb⟩ := C_at (Kd.C_below HC5.out HB.out) (by decide) hx
      have HSX := Aside0.mk (HSS.out.1 x (List.mem_of_getElem? hx))
      have HTK := Aside0.mk (setsD_take (d := d) hx)
      have HDK := Aside0.mk (setsD_ok HD.out HL.out (sets.take j))
      have hxr := okSt_range HSX.out
      rw [HL.out, Nat.mul_div_cancel_left _ (by decide)] at hxr
      obtain ⟨x, y⟩ := x
      obtain ⟨hx0, hxn, hy0, hy1⟩ := hxr
      obtain ⟨i, hi⟩ : ∃ i : Nat, x = i := ⟨x.toNat, by have : 0 ≤ x := hx0; omega⟩
      subst hi
      have hy0 : 0 ≤ y := hy0
      have hy1 : y < 18446744073709551616 := hy1
      have hin : i < n := by have : (i : Int) < n := hxn; omega
      obtain ⟨dj, hdj⟩ : ∃ dj, dj = setsD d (sets.take j) := ⟨_, rfl⟩
      rw [← hdj] at HV HDK HTK
      obtain ⟨A2, c2, hv2⟩ := Kd.V_slice HV.out
      rw [wdL_length] at hv2
      subst hv2
      have HTK2 := Aside0.mk (show setsD d (sets.take (j + 1)) = (dj.step (.wr (8 * i) (leB y 8))).step (.fl (8 * i) (8 * 1)) from HTK.out)
      have HDK1 := Aside0.mk (Dev.step_ok HDK.out.1 (m := .wr (8 * i) (leB y 8)) (leB_bysq _ _))
      have HPY := Aside0.mk (fun (W : World) => rput8 W (x := y) hy0 hy1)
      have HPO := Aside0.mk (fun (W : World) => rputop_calls W i (by omega) (leB y 8) (leB_bysq _ _) (leB_length _ _))
      have HFL := Aside0.mk (fun (W : World) => show Calls Try.prog 83 #[.int .i64 i, .int .i64 1] W (fun e w' => e = .returned (.agg #[.int .i64 2, .int .i64 (8 * (i : Int)), .int .i64 8, .slice none 0 0, .slice none 0 0]) ∧ Below W.heap.size W w') from rflushed_calls W i 1 (by omega) (by decide))
      have HBS := Aside0.mk (Nat.le_trans HB0.out HBW.out.size)
      clear hdj hx0 hxn HTK HSX
      have b0c : wr.cell? ⟨bb, ob + j * 2, none⟩ = some (.int .i64 i) := hcb 0 (by decide)
      have b1c : wr.cell? ⟨bb, ob + j * 2 + 1, none⟩ = some (.int .u64 y) := hcb 1 (by decide)
      subst hA
      clear hcb hx
      go_wp2_with fail
      refine start_ (n := 21) (S := fun w' => w'.cell? ⟨bb, ob + j * 2, none⟩ = some (.int .i64 i) ∧ w'.cell? ⟨bb, ob + j * 2 + 1, none⟩ = some (.int .u64 y)) (ds := []) #[false, false, false, false, false, false, false, false, false, false, false, false, false, false, false, false, false, false, false, false, false] (by kernel_rfl) rfl rfl ⟨b0c, b1c⟩ (fun hHeld => ?_)
      refine pure_ (i := 0) (N := some 31) (v := ?_) (a' := ?_) #[true, false, false, false, false, false, false, false, false, false, false, false, false, false, false, false, false, false, false, false, false] rfl rfl (by kernel_rfl) (fun _ _ _ h => h) (Or.inl ⟨by rfl, ?_⟩) ?_ ?_
      rotate_left
      · intro w'
        go_simp
        with_reducible rfl
      rotate_left
      · simp only [Act.put, List.setIfInBounds_toArray, List.set_cons_zero, List.set_cons_succ, i64_w, i32_w]
        rfl
      refine pure_ (i := 1) (N := some 32) (v := ?_) (a' := ?_) #[true, true, false, false, false, false, false, false, false, false, false, false, false, false, false, false, false, false, false, false, false] rfl rfl (by kernel_rfl) (fun _ _ _ h => h) (Or.inl ⟨by rfl, ?_⟩) ?_ ?_
      rotate_left
      · intro w'
        go_simp
        with_reducible rfl
      rotate_left
      · simp only [Act.put, List.setIfInBounds_toArray, List.set_cons_zero, List.set_cons_succ, i64_w, i32_w]
        rfl
      refine pure_ (i := 2) (N := some 33) (v := ?_) (a' := ?_) #[true, true, true, false, false, false, false, false, false, false, false, false, false, false, false, false, false, false, false, false, false] rfl rfl (by kernel_rfl) (fun _ _ _ h => h) (Or.inl ⟨by rfl, ?_⟩) ?_ ?_
      rotate_left
      · intro w'
        go_simp
        with_reducible rfl
      rotate_left
      · simp only [Act.put, List.setIfInBounds_toArray, List.set_cons_zero, List.set_cons_succ, i64_w, i32_w]
        rfl
      refine pure_ (i := 3) (N := some 34) (v := ?_) (a' := ?_) #[true, true, true, true, false, false, false, false, false, false, false, false, false, false, false, false, false, false, false, false, false] rfl rfl (by kernel_rfl) (fun _ _ _ h => h) (Or.inl ⟨by rfl, ?_⟩) ?_ ?_
      rotate_left
      · intro w'
        go_simp
        with_reducible rfl
      rotate_left
      · simp only [Act.put, List.setIfInBounds_toArray, List.set_cons_zero, List.set_cons_succ, i64_w, i32_w]
        rfl
      refine pure_ (i := 4) (N := some 35) (v := ?_) (a' := ?_) #[true, true, true, true, true, false, false, false, false, false, false, false, false, false, false, false, false, false, false, false, false] rfl rfl (by kernel_rfl) (fun _ _ _ h => h) (Or.inl ⟨by rfl, ?_⟩) ?_ ?_
      rotate_left
      · intro w'
        go_simp
        with_reducible rfl
      rotate_left
      · simp only [Act.put, List.setIfInBounds_toArray, List.set_cons_zero, List.set_cons_succ, i64_w, i32_w]
        rfl
      refine pure_ (i := 6) (N := some 37) (v := ?_) (a' := ?_) #[true, true, true, true, true, false, true, false, false, false, false, false, false, false, false, false, false, false, false, false, false] rfl rfl (by kernel_rfl) (fun _ _ _ h => h) (Or.inl ⟨by rfl, ?_⟩) ?_ ?_
      rotate_left
      · intro w'
        go_simp
        with_reducible rfl
      rotate_left
      · simp only [Act.put, List.setIfInBounds_toArray, List.set_cons_zero, List.set_cons_succ, i64_w, i32_w]
        rfl
      refine pure_ (i := 7) (N := some 38) (v := ?_) (a' := ?_) #[true, true, true, true, true, false, true, true, false, false, false, false, false, false, false, false, false, false, false, false, false] rfl rfl (by kernel_rfl) (fun _ _ _ h => h) (Or.inl ⟨by rfl, ?_⟩) ?_ ?_
      rotate_left
      · intro w'
        go_simp
        with_reducible rfl
      rotate_left
      · simp only [Act.put, List.setIfInBounds_toArray, List.set_cons_zero, List.set_cons_succ, i64_w, i32_w]
        rfl
      refine pure_ (i := 8) (N := some 39) (v := ?_) (a' := ?_) #[true, true, true, true, true, false, true, true, true, false, false, false, false, false, false, false, false, false, false, false, false] rfl rfl (by kernel_rfl) (fun _ _ _ h => h) (Or.inl ⟨by rfl, ?_⟩) ?_ ?_
      rotate_left
      · intro w'
        go_simp
        with_reducible rfl
      rotate_left
      · simp only [Act.put, List.setIfInBounds_toArray, List.set_cons_zero, List.set_cons_succ, i64_w, i32_w]
        rfl
      refine pure_ (i := 9) (N := some 40) (v := ?_) (a' := ?_) #[true, true, true, true, true, false, true, true, true, true, false, false, false, false, false, false, false, false, false, false, false] rfl rfl (by kernel_rfl) (fun _ _ _ h => h) (Or.inl ⟨by rfl, ?_⟩) ?_ ?_
      rotate_left
      · intro w'
        go_simp
        with_reducible rfl
      rotate_left
      · simp only [Act.put, List.setIfInBounds_toArray, List.set_cons_zero, List.set_cons_succ, i64_w, i32_w]
        rfl
      refine take_ (i := 5) (N := some 36) (v := ?_) (a' := ?_) #[true, true, true, true, true, true, true, true, true, true, false, false, false, false, false, false, false, false, false, false, false] rfl rfl (by kernel_rfl) (fun _ _ _ h => h) (Or.inl ⟨by rfl, ?_⟩) hHeld ?_ ?_
      rotate_left
      · rintro w' ⟨s0, s1⟩
        go_simp
        with_reducible rfl
      rotate_left
      · simp only [Act.put, List.setIfInBounds_toArray, List.set_cons_zero, List.set_cons_succ, i64_w, i32_w]
        rfl
      refine take_ (i := 10) (N := some 41) (v := ?_) (a' := ?_) #[true, true, true, true, true, true, true, true, true, true, true, false, false, false, false, false, false, false, false, false, false] rfl rfl (by kernel_rfl) (fun _ _ _ h => h) (Or.inl ⟨by rfl, ?_⟩) hHeld ?_ ?_
      rotate_left
      · rintro w' ⟨s0, s1⟩
        go_simp
        with_reducible rfl
      rotate_left
      · simp only [Act.put, List.setIfInBounds_toArray, List.set_cons_zero, List.set_cons_succ, i64_w, i32_w]
        rfl
      refine one_ (i := 11) (N := some 42) #[true, true, true, true, true, true, true, true, true, true, true, true, false, false, false, false, false, false, false, false, false] rfl rfl (by kernel_rfl) (by decide) (fun K hK => ?_)
      refine goes_ Try.func82 (by kernel_rfl) rfl #[.int .i64 8, .int .u64 y] (by rfl) rfl rfl (by simp only [List.map_toArray, List.map_cons, List.map_nil]; rfl) ?_
      with_reducible refine (HPY.out wr.drew).mono ?_
      rintro e w5 ⟨rfl, hb5⟩
      refine ⟨_, rfl, ?_⟩
      have HB5 := Aside0.mk (bel_step (Below.refl wr.heap.size wr).drew hb5)
      have i0 := bel_cell hb5 hHeld.1
      have i1 := bel_cell hb5 hHeld.2
      clear hb5
      refine hK.out _ _ ⟨i0, i1⟩ (fun hHeld => ?_)
      clear hK K
      refine norm_ (a' := ?_) ?_ ?_
      rotate_left
      · show Act.put _ (some 42) _ = _
        simp only [Act.put, List.setIfInBounds_toArray, List.set_cons_zero, List.set_cons_succ, i64_w, i32_w]
        rfl
      refine one_ (i := 12) (N := some 43) #[true, true, true, true, true, true, true, true, true, true, true, true, true, false, false, false, false, false, false, false, false] rfl rfl (by kernel_rfl) (by decide) (fun K hK => ?_)
      refine goes_ Try.func81 (by kernel_rfl) rfl #[.int .i64 i, .string (strOfNums (leB y 8))] (by rfl) rfl rfl (by simp only [List.map_toArray, List.map_cons, List.map_nil]; rfl) ?_
      with_reducible refine (HPO.out w5).mono ?_
      rintro e w6 ⟨g6, c6, rfl, hc6, hr6, hb6⟩
      refine ⟨_, rfl, ?_⟩
      have HC6 := Aside0.mk hc6
      have HR6 := Aside0.mk hr6
      have HB6 := Aside0.mk (bel_step HB5.out hb6)
      have j0 := bel_cell hb6 i0
      have j1 := bel_cell hb6 i1
      clear hb6 hc6 hr6
      refine hK.out _ _ ⟨j0, j1⟩ (fun hHeld => ?_)
      clear hK K
      refine norm_ (a' := ?_) ?_ ?_
      rotate_left
      · show Act.put _ (some 43) _ = _
        simp only [Act.put, List.setIfInBounds_toArray, List.set_cons_zero, List.set_cons_succ, i64_w, i32_w]
        rfl
      refine one_ (i := 13) (N := some 44) #[true, true, true, true, true, true, true, true, true, true, true, true, true, true, false, false, false, false, false, false, false] rfl rfl (by kernel_rfl) (by decide) (fun K hK => ?_)
      refine goes_ Try.func58 (by kernel_rfl) rfl #[.slice A2 n c2, .agg #[.int .i64 0, .int .i64 (8 * (i : Int)), .int .i64 0, .slice (some ⟨g6, 0, none⟩) 8 c6, .slice none 0 0]] (by rfl) rfl rfl (by simp only [List.map_toArray, List.map_cons, List.map_nil]; rfl) ?_
      with_reducible refine (rdo_put HDK.out.1 HDK.out.2 (Kd.V_below HV.out HB6.out) (Nat.le_trans HBS.out HB6.out.size) i hin (leB y 8) (leB_length _ _) (leB_bysq _ _) g6 c6 HC6.out HR6.out).mono ?_
      rintro e w7 ⟨v7, t7, e7, rfl, hv7, hb7⟩
      refine ⟨_, rfl, ?_⟩
      have HV7 := Aside0.mk hv7
      have HB7 := Aside0.mk (bel_step HB6.out hb7)
      have k0 := bel_cell hb7 j0
      have k1 := bel_cell hb7 j1
      clear hv7 hb7
      refine hK.out _ _ ⟨k0, k1⟩ (fun hHeld => ?_)
      clear hK K
      refine norm_ (a' := ?_) ?_ ?_
      rotate_left
      · show Act.put _ (some 44) _ = _
        simp only [Act.put, List.setIfInBounds_toArray, List.set_cons_zero, List.set_cons_succ, i64_w, i32_w]
        rfl
      refine pure_ (i := 14) (N := some 30) (v := ?_) (a' := ?_) #[true, true, true, true, true, true, true, true, true, true, true, true, true, true, true, false, false, false, false, false, false] rfl rfl (by kernel_rfl) (fun _ _ _ h => h) (Or.inl ⟨by rfl, ?_⟩) ?_ ?_
      rotate_left
      · intro w'
        go_simp
        with_reducible rfl
      rotate_left
      · simp only [Act.put, List.setIfInBounds_toArray, List.set_cons_zero, List.set_cons_succ, i64_w, i32_w]
        rfl
      refine pure_ (i := 15) (N := some 45) (v := ?_) (a' := ?_) #[true, true, true, true, true, true, true, true, true, true, true, true, true, true, true, true, false, false, false, false, false] rfl rfl (by kernel_rfl) (fun _ _ _ h => h) (Or.inl ⟨by rfl, ?_⟩) ?_ ?_
      rotate_left
      · intro w'
        go_simp
        with_reducible rfl
      rotate_left
      · simp only [Act.put, List.setIfInBounds_toArray, List.set_cons_zero, List.set_cons_succ, i64_w, i32_w]
        rfl
      refine pure_ (i := 16) (N := some 46) (v := ?_) (a' := ?_) #[true, true, true, true, true, true, true, true, true, true, true, true, true, true, true, true, true, false, false, false, false] rfl rfl (by kernel_rfl) (fun _ _ _ h => h) (Or.inl ⟨by rfl, ?_⟩) ?_ ?_
      rotate_left
      · intro w'
        go_simp
        with_reducible rfl
      rotate_left
      · simp only [Act.put, List.setIfInBounds_toArray, List.set_cons_zero, List.set_cons_succ, i64_w, i32_w]
        rfl
      refine pure_ (i := 17) (N := some 47) (v := ?_) (a' := ?_) #[true, true, true, true, true, true, true, true, true, true, true, true, true, true, true, true, true, true, false, false, false] rfl rfl (by kernel_rfl) (fun _ _ _ h => h) (Or.inl ⟨by rfl, ?_⟩) ?_ ?_
      rotate_left
      · intro w'
        go_simp
        with_reducible rfl
      rotate_left
      · simp only [Act.put, List.setIfInBounds_toArray, List.set_cons_zero, List.set_cons_succ, i64_w, i32_w]
        rfl
      refine pure_ (i := 18) (N := some 9) (v := ?_) (a' := ?_) #[true, true, true, true, true, true, true, true, true, true, true, true, true, true, true, true, true, true, true, false, false] rfl rfl (by kernel_rfl) (fun _ _ _ h => h) (Or.inl ⟨by rfl, ?_⟩) ?_ ?_
      rotate_left
      · intro w'
        go_simp
        with_reducible rfl
      rotate_left
      · simp only [Act.put, List.setIfInBounds_toArray, List.set_cons_zero, List.set_cons_succ, i64_w, i32_w]
        rfl
      refine pure_ (i := 19) (N := some 10) (v := ?_) (a' := ?_) #[true, true, true, true, true, true, true, true, true, true, true, true, true, true, true, true, true, true, true, true, false] rfl rfl (by kernel_rfl) (fun _ _ _ h => h) (Or.inl ⟨by rfl, ?_⟩) ?_ ?_
      rotate_left
      · intro w'
        go_simp
        with_reducible rfl
      rotate_left
      · simp only [Act.put, List.setIfInBounds_toArray, List.set_cons_zero, List.set_cons_succ, i64_w, i32_w]
        rfl
      refine pure_ (i := 20) (N := some 11) (v := ?_) (a' := ?_) #[true, true, true, true, true, true, true, true, true, true, true, true, true, true, true, true, true, true, true, true, true] rfl rfl (by kernel_rfl) (fun _ _ _ h => h) (Or.inl ⟨by rfl, ?_⟩) ?_ ?_
      rotate_left
      · intro w'
        go_simp
        with_reducible rfl
      rotate_left
      · simp only [Act.put, List.setIfInBounds_toArray, List.set_cons_zero, List.set_cons_succ, i64_w, i32_w]
        rfl
      refine done_ (by kernel_rfl) ?_
      go_wp2_with (first | (go_at_call 83; ((with_reducible refine (HFL.out _).mono ?_); rintro e w8 ⟨rfl, hb8⟩; have HB8 := Aside0.mk (bel_step HB7.out hb8); have HV8 := Aside0.mk (Kd.V_below HV7.out hb8); clear hb8)) | (go_at_call 58; ((with_reducible refine (rdo_flush1 HDK1.out.1 (HDK1.out.2.trans HDK.out.2) HV8.out (Nat.le_trans HBS.out HB8.out.size) i hin).mono ?_); rintro e w9 ⟨v9, t9, e9, rfl, hv9, hb9⟩; have HV9 := Aside0.mk hv9; have HB9 := Aside0.mk (bel_step HB8.out hb9); clear hv9 hb9)))
      refine ⟨⟨j + 1, by omega, by go_num, ⟨?_⟩, ⟨bel_step HB.out HB9.out⟩⟩, by simp [intOf]; omega⟩
      rw [HTK2.out]
      exact HV9.out
    · obtain rfl : j = sets.length := by omega
      have HDK := Aside0.mk (setsD_ok HD.out HL.out sets)
      rw [List.take_of_length_le (Nat.le_refl _)] at HV
      by_cases hq : 0 < q
      · have HDF := Aside0.mk (rdo_fence HDK.out.1 HDK.out.2 HV.out (Nat.le_trans HB0.out HBW.out.size))
        go_wp2_with (go_at_call 58; ((with_reducible refine HDF.out.mono ?_); rintro e w9 ⟨v9, t9, e9, rfl, hv9, hb9⟩; have HV9 := Aside0.mk hv9; have HB9 := Aside0.mk (bel_step HBW.out hb9); clear hv9 hb9))
        go_ret2
        rw [HE.out, if_pos hq]
        exact ⟨_, rfl, HV9.out, HB9.out⟩
      · go_wp2
        go_ret2
        rw [HE.out, if_neg (by omega)]
        exact ⟨_, rfl, HV.out, HBW.out⟩
end Go.Proofs.Ytbfogcckbhkciaa.Hand
namespace Go.Proofs.Ytbfogcckbhkciaa.Hand
open Go.RowKit Go.Maps Go.Proofs.YtbfogcckbhkciaaW.PrintWords Go.Proofs.YtbfogcckbhkciaaW.PrintLast Go.Proofs.Ytbfogcckbhkciaa.PHandRP
set_option linter.unusedVariables false
set_option linter.unusedSimpArgs false
theorem reads64 {w : World} {base : Nat} {ok : Nat → Prop} {v : Value} {xs : List Int} (h : Kd.R (Kd.int .i64) 3 w base ok v xs) : ∃ A c, v = .slice A xs.length c ∧ ReadsInt w .i64 A xs.length xs := own_reads (Kd.own_of_R h)
set_option maxRecDepth 100000 in
set_option maxHeartbeats 2000000 in
theorem same4_calls (w : World) (p : Nat) (u : Value) (s f : Nat) (d : Dev) {b n : Nat} {v : Value} (h : HasD w p u s f d) (hv : RowV w b v d n) (hl : d.B.length = 8 * n) :
    Calls Try.prog 39 #[.pointer (some ⟨p, 0, none⟩), v] w fun e w' => e = .returned (.bool true) ∧ Below w.heap.size w w' := by
  have hn : n ≤ 8192 := by have := h.ok.max; omega
  obtain ⟨A, c, rfl⟩ := Kd.V_slice hv
  rw [wdL_length] at hv ⊢
  have HD := Aside0.mk h
  have HV := Aside0.mk hv
  have HL := Aside0.mk hl
  clear h hv hl
  go_enter Try.func39, Try.ntmps39
  go_wp2_with fail
  refine start_ (n := 14) (S := fun w' => True) (ds := []) #[false, false, false, false, false, false, false, false, false, false, false, false, false, false] (by kernel_rfl) rfl rfl trivial (fun hHeld => ?_)
  refine pure_ (i := 0) (N := some 5) (v := ?_) (a' := ?_) #[true, false, false, false, false, false, false, false, false, false, false, false, false, false] rfl rfl (by kernel_rfl) (fun _ _ _ h => h) (Or.inl ⟨by rfl, ?_⟩) ?_ ?_
  rotate_left
  · intro w'
    go_simp
    with_reducible rfl
  rotate_left
  · simp only [Act.put, List.setIfInBounds_toArray, List.set_cons_zero, List.set_cons_succ, i64_w, i32_w]
    rfl
  refine pure_ (i := 3) (N := some 8) (v := ?_) (a' := ?_) #[true, false, false, true, false, false, false, false, false, false, false, false, false, false] rfl rfl (by kernel_rfl) (fun _ _ _ h => h) (Or.inl ⟨by rfl, ?_⟩) ?_ ?_
  rotate_left
  · intro w'
    go_simp
    with_reducible rfl
  rotate_left
  · simp only [Act.put, List.setIfInBounds_toArray, List.set_cons_zero, List.set_cons_succ, i64_w, i32_w]
    rfl
  refine one_ (i := 1) (N := some 6) #[true, true, false, true, false, false, false, false, false, false, false, false, false, false] rfl rfl (by kernel_rfl) (by decide) (fun K hK => ?_)
  refine goes_ Try.func22 (by kernel_rfl) rfl #[.pointer (some ⟨p, 0, none⟩)] (by rfl) rfl rfl (by simp only [List.map_toArray, List.map_cons, List.map_nil]; rfl) ?_
  with_reducible refine (bytes_calls w.drew p u s f d (HD.out.move (Below.refl _ _).drew)).mono ?_
  rintro e w5 ⟨u5, rfl, hr5, hb5⟩
  refine ⟨_, rfl, ?_⟩
  obtain ⟨A5, c5, rfl, _, hR5⟩ := reads_own2 hr5
  have HR5 := Aside0.mk hR5
  have HB5 := Aside0.mk (bel_step (Below.refl w.heap.size w).drew hb5)
  clear hr5 hb5 hR5
  refine hK.out _ _ trivial (fun hHeld => ?_)
  clear hK K
  refine norm_ (a' := ?_) ?_ ?_
  rotate_left
  · show Act.put _ (some 6) _ = _
    simp only [Act.put, List.setIfInBounds_toArray, List.set_cons_zero, List.set_cons_succ, i64_w, i32_w]
    rfl
  refine join_ (σ := Unit) 9 #[true, true, true, true, true, false, false, false, false, false, false, false, false, false] (fun _ => [(7, .string (strOfNums d.B)), (9, .string (strOfNums d.B))]) (fun _ w' => Below w.heap.size w w') ?_ ?_
  rotate_left
  · intro hCont
    refine two_ (i := 2) (j := 4) (Ni := some 7) (Nj := some 9) #[true, true, true, true, false, false, false, false, false, false, false, false, false, false] #[true, true, false, true, true, false, false, false, false, false, false, false, false, false] rfl rfl rfl rfl (by kernel_rfl) (by decide) (by decide) (fun K hK => ?_) (fun K hK => ?_)
    · skip
      have hcv := conv_n (c := c5) HR5.out
      refine value_ (w1 := ?_) (v := ?_) (by rfl) rfl ?_ ?_
      rotate_left 2
      · go_simp
        constructor
        · rfl
        · rfl
      clear hcv
      refine hK.out _ _ trivial (fun hHeld => ?_)
      clear hK K
      refine norm_ (a' := ?_) ?_ ?_
      rotate_left
      · show Act.put _ (some 7) _ = _
        simp only [Act.put, List.setIfInBounds_toArray, List.set_cons_zero, List.set_cons_succ, i64_w, i32_w]
        rfl
      refine one_ (i := 4) (N := some 9) #[true, true, true, true, true, false, false, false, false, false, false, false, false, false] rfl rfl (by kernel_rfl) (by decide) (fun K hK => ?_)
      refine goes_ Try.func59 (by kernel_rfl) rfl #[.slice A n c] (by rfl) rfl rfl (by simp only [List.map_toArray, List.map_cons, List.map_nil]; rfl) ?_
      with_reducible refine (r3bytes_calls (Kd.V_below HV.out HB5.out) HL.out hn).mono ?_
      rintro e w6 ⟨rfl, hb6⟩
      refine ⟨_, rfl, ?_⟩
      have HB65 := Aside0.mk hb6.below
      have HB6 := Aside0.mk (bel_step HB5.out hb6.below)
      clear hb6
      refine hK.out _ _ trivial (fun hHeld => ?_)
      clear hK K
      refine norm_ (a' := ?_) ?_ ?_
      rotate_left
      · show Act.put _ (some 9) _ = _
        simp only [Act.put, List.setIfInBounds_toArray, List.set_cons_zero, List.set_cons_succ, i64_w, i32_w]
        rfl
      exact norm_ (by first | (simp only [putAll, Act.put, List.setIfInBounds_toArray, List.set_cons_zero, List.set_cons_succ]; done) | (simp only [putAll, Act.put, List.setIfInBounds_toArray, List.set_cons_zero, List.set_cons_succ]; rfl)) (hCont () _ HB6.out)
    · skip
      refine goes_ Try.func59 (by kernel_rfl) rfl #[.slice A n c] (by rfl) rfl rfl (by simp only [List.map_toArray, List.map_cons, List.map_nil]; rfl) ?_
      with_reducible refine (r3bytes_calls (Kd.V_below HV.out HB5.out) HL.out hn).mono ?_
      rintro e w6 ⟨rfl, hb6⟩
      refine ⟨_, rfl, ?_⟩
      have HB65 := Aside0.mk hb6.below
      have HB6 := Aside0.mk (bel_step HB5.out hb6.below)
      clear hb6
      refine hK.out _ _ trivial (fun hHeld => ?_)
      clear hK K
      refine norm_ (a' := ?_) ?_ ?_
      rotate_left
      · show Act.put _ (some 9) _ = _
        simp only [Act.put, List.setIfInBounds_toArray, List.set_cons_zero, List.set_cons_succ, i64_w, i32_w]
        rfl
      refine one_ (i := 2) (N := some 7) #[true, true, true, true, true, false, false, false, false, false, false, false, false, false] rfl rfl (by kernel_rfl) (by decide) (fun K hK => ?_)
      have hcv := conv_n (c := c5) (HR5.out.below HB65.out)
      refine value_ (w1 := ?_) (v := ?_) (by rfl) rfl ?_ ?_
      rotate_left 2
      · go_simp
        constructor
        · rfl
        · rfl
      clear hcv
      refine hK.out _ _ trivial (fun hHeld => ?_)
      clear hK K
      refine norm_ (a' := ?_) ?_ ?_
      rotate_left
      · show Act.put _ (some 7) _ = _
        simp only [Act.put, List.setIfInBounds_toArray, List.set_cons_zero, List.set_cons_succ, i64_w, i32_w]
        rfl
      exact norm_ (by first | (simp only [putAll, Act.put, List.setIfInBounds_toArray, List.set_cons_zero, List.set_cons_succ]; done) | (simp only [putAll, Act.put, List.setIfInBounds_toArray, List.set_cons_zero, List.set_cons_succ]; rfl)) (hCont () _ HB6.out)
  rintro _ wJ hbJ
  have HBJ := Aside0.mk hbJ
  clear hbJ
  have hHeld : True := trivial
  refine norm_ (a' := ?_) ?_ ?_
  rotate_left
  · simp only [putAll, Act.put, List.setIfInBounds_toArray, List.set_cons_zero, List.set_cons_succ]
    rfl
  refine pure_ (i := 5) (N := some 10) (v := ?_) (a' := ?_) #[true, true, true, true, true, true, false, false, false, false, false, false, false, false] rfl rfl (by kernel_rfl) (fun _ _ _ h => h) (Or.inl ⟨by rfl, ?_⟩) ?_ ?_
  rotate_left
  · intro w'
    go_simp
    with_reducible rfl
  rotate_left
  · simp only [Act.put, List.setIfInBounds_toArray, List.set_cons_zero, List.set_cons_succ, i64_w, i32_w]
    rfl
  refine pure_ (i := 6) (N := some 11) (v := ?_) (a' := ?_) #[true, true, true, true, true, true, true, false, false, false, false, false, false, false] rfl rfl (by kernel_rfl) (fun _ _ _ h => h) (Or.inl ⟨by rfl, ?_⟩) ?_ ?_
  rotate_left
  · intro w'
    go_simp
    with_reducible rfl
  rotate_left
  · simp only [Act.put, List.setIfInBounds_toArray, List.set_cons_zero, List.set_cons_succ, i64_w, i32_w]
    rfl
  refine pure_ (i := 7) (N := some 12) (v := ?_) (a' := ?_) #[true, true, true, true, true, true, true, true, false, false, false, false, false, false] rfl rfl (by kernel_rfl) (fun _ _ _ h => h) (Or.inl ⟨by rfl, ?_⟩) ?_ ?_
  rotate_left
  · intro w'
    go_simp
    with_reducible rfl
  rotate_left
  · simp only [Act.put, List.setIfInBounds_toArray, List.set_cons_zero, List.set_cons_succ, i64_w, i32_w]
    rfl
  refine pure_ (i := 9) (N := some 14) (v := ?_) (a' := ?_) #[true, true, true, true, true, true, true, true, false, true, false, false, false, false] rfl rfl (by kernel_rfl) (fun _ _ _ h => h) (Or.inl ⟨by rfl, ?_⟩) ?_ ?_
  rotate_left
  · intro w'
    go_simp
    with_reducible rfl
  rotate_left
  · simp only [Act.put, List.setIfInBounds_toArray, List.set_cons_zero, List.set_cons_succ, i64_w, i32_w]
    rfl
  refine one_ (i := 8) (N := some 13) #[true, true, true, true, true, true, true, true, true, true, false, false, false, false] rfl rfl (by kernel_rfl) (by decide) (fun K hK => ?_)
  refine goes_ Try.func26 (by kernel_rfl) rfl #[.pointer (some ⟨p, 0, none⟩)] (by rfl) rfl rfl (by simp only [List.map_toArray, List.map_cons, List.map_nil]; rfl) ?_
  with_reducible refine (loose_calls wJ p u s f d (HD.out.move HBJ.out)).mono ?_
  rintro e w7 ⟨u7, rfl, hr7, hb7⟩
  refine ⟨_, rfl, ?_⟩
  obtain ⟨A7, c7, rfl, hR7⟩ := reads64 hr7
  have HR7 := Aside0.mk hR7
  have HB7 := Aside0.mk (bel_step HBJ.out hb7)
  clear hr7 hb7 hR7
  refine hK.out _ _ trivial (fun hHeld => ?_)
  clear hK K
  refine norm_ (a' := ?_) ?_ ?_
  rotate_left
  · show Act.put _ (some 13) _ = _
    simp only [Act.put, List.setIfInBounds_toArray, List.set_cons_zero, List.set_cons_succ, i64_w, i32_w]
    rfl
  refine one_ (i := 10) (N := some 15) #[true, true, true, true, true, true, true, true, true, true, true, false, false, false] rfl rfl (by kernel_rfl) (by decide) (fun K hK => ?_)
  refine goes_ Try.func60 (by kernel_rfl) rfl #[.slice A n c] (by rfl) rfl rfl (by simp only [List.map_toArray, List.map_cons, List.map_nil]; rfl) ?_
  with_reducible refine (r3loose_calls (Kd.V_below HV.out HB7.out) HL.out hn).mono ?_
  rintro e w8 ⟨u8, rfl, hr8, hb8⟩
  refine ⟨_, rfl, ?_⟩
  obtain ⟨A8, c8, rfl, hR8⟩ := reads64 hr8
  have HR8 := Aside0.mk hR8
  have HR78 := Aside0.mk (HR7.out.below hb8)
  have HB8 := Aside0.mk (bel_step HB7.out hb8)
  clear hr8 hb8 hR8
  refine hK.out _ _ trivial (fun hHeld => ?_)
  clear hK K
  refine norm_ (a' := ?_) ?_ ?_
  rotate_left
  · show Act.put _ (some 15) _ = _
    simp only [Act.put, List.setIfInBounds_toArray, List.set_cons_zero, List.set_cons_succ, i64_w, i32_w]
    rfl
  refine one_ (i := 11) (N := some 16) #[true, true, true, true, true, true, true, true, true, true, true, true, false, false] rfl rfl (by kernel_rfl) (by decide) (fun K hK => ?_)
  refine goes_ Try.func34 (by kernel_rfl) rfl #[.slice A7 (looseM d).length c7, .slice A8 (looseM d).length c8] (by rfl) rfl rfl (by simp only [List.map_toArray, List.map_cons, List.map_nil]; rfl) ?_
  with_reducible refine (same_calls A7 A8 c7 c8 (looseM d) (looseM d) w8 HR78.out HR8.out).mono ?_
  rintro e w9 ⟨rfl, hb9⟩
  refine ⟨_, rfl, ?_⟩
  have HB9 := Aside0.mk (bel_step HB8.out hb9)
  clear hb9
  refine hK.out _ _ trivial (fun hHeld => ?_)
  clear hK K
  refine norm_ (a' := ?_) ?_ ?_
  rotate_left
  · show Act.put _ (some 16) _ = _
    simp only [Act.put, List.setIfInBounds_toArray, List.set_cons_zero, List.set_cons_succ, i64_w, i32_w]
    rfl
  refine pure_ (i := 12) (N := some 17) (v := ?_) (a' := ?_) #[true, true, true, true, true, true, true, true, true, true, true, true, true, false] rfl rfl (by kernel_rfl) (fun _ _ _ h => h) (Or.inl ⟨by rfl, ?_⟩) ?_ ?_
  rotate_left
  · intro w'
    go_simp
    with_reducible rfl
  rotate_left
  · simp only [Act.put, List.setIfInBounds_toArray, List.set_cons_zero, List.set_cons_succ, i64_w, i32_w]
    rfl
  refine pure_ (i := 13) (N := some 4) (v := ?_) (a' := ?_) #[true, true, true, true, true, true, true, true, true, true, true, true, true, true] rfl rfl (by kernel_rfl) (fun _ _ _ h => h) (Or.inl ⟨by rfl, ?_⟩) ?_ ?_
  rotate_left
  · intro w'
    go_simp
    with_reducible rfl
  rotate_left
  · simp only [Act.put, List.setIfInBounds_toArray, List.set_cons_zero, List.set_cons_succ, i64_w, i32_w]
    rfl
  refine done_ (by kernel_rfl) ?_
  go_wp2
  go_ret
  refine ⟨?_, HB9.out⟩
  first
    | rfl
    | simp
end Go.Proofs.Ytbfogcckbhkciaa.Hand
namespace Go.Proofs.Ytbfogcckbhkciaa.Hand
open Go.RowKit Go.ChangeShapes Go.WideShapes Go.ChangeAt Go.Proofs.YtbfogcckbhkciaaW.PrintWords
set_option linter.unusedVariables false
theorem cap_le {H : Type} {enc : TypeId × Value → H} {W : World} {spare : Nat → Bool} {held : Bool} {t e : TypeId} (ht : Try.prog.underlying t = some (.slice e)) {n len cap : Nat} {a : Option Addr} {y : DataW H × List MemPlace}
    (hf : DataW.trod enc Try.prog W 0 spare held n t [.slice a len cap] = some y) : len ≤ cap := by
  rcases Go.Deep.open_slice ht hf with ⟨hcs, _⟩ | ⟨x, l, c, m, n, D, Pl, hcs, _, hl, _⟩
  · simp at hcs
    omega
  · simp at hcs
    omega
theorem po_cells2 {H : Type} {enc : TypeId × Value → H} {w : World} {spare : Nat → Bool} {held : Bool} {n : Nat} {cs : List Value} {y : DataW H × List MemPlace} (h : DataW.trod enc Try.prog w 0 spare held n 26 cs = some y) : ∃ x : OpP, cs = encPo x ∧ (WfPo w x ∧ x.ks.length ≤ x.c2) := by
  obtain ⟨x, rfl, hw⟩ := po_cells h
  refine ⟨x, rfl, hw, ?_⟩
  obtain ⟨xs, m, _, rfl, hlen, hxs, hf⟩ := DataW.trod_struct Try.underlying26 h
  have h4 : DataW.trod enc Try.prog w 0 spare held m 24 (((encPo x).drop 4).take (Try.prog.cellsOf 24)) = xs[4]? := hf 4 _ rfl
  obtain ⟨y4, e4⟩ : ∃ y0, xs[4]? = some y0 := ⟨_, List.getElem?_eq_getElem (by rw [hxs]; decide)⟩
  rw [e4, show Try.prog.cellsOf 24 = 1 by kernel_rfl] at h4
  exact cap_le Try.underlying24 h4
theorem open_pops2 {H : Type} {enc : TypeId × Value → H} {w : World} {spare : Nat → Bool} {held : Bool} {A : Option Addr} {len cap : Nat} {d : DataW H} {ps : List MemPlace}
    (h : DataW.Trod enc Try.prog w 0 spare held 22 (.slice A len cap) d ps) : ∃ os : List OpP, len = os.length ∧ PoK.C w A os.length os ∧ ∀ o ∈ os, WfPo w o ∧ o.ks.length ≤ o.c2 :=
  open_flat Try.underlying22 (by kernel_rfl) (fun n cs y h => po_cells2 h) h
structure SeatP where
  A0 : Option Addr
  c0 : Nat
  B : List Int
  A1 : Option Addr
  c1 : Nat
  os : List OpP
  a : Int
  k : Int
def encSeat (x : SeatP) : List Value := [.slice x.A0 x.B.length x.c0, .slice x.A1 x.os.length x.c1, .int .i64 x.a, .int .i64 x.k]
structure WfSeat (w : World) (x : SeatP) : Prop where
  rb : ReadsInt w .u8 x.A0 x.B.length x.B
  by_ : Bys x.B
  ro : PoK.C w x.A1 x.os.length x.os
  wo : ∀ o ∈ x.os, WfPo w o ∧ o.ks.length ≤ o.c2
  ha : -9223372036854775808 ≤ x.a ∧ x.a ≤ 9223372036854775807
  hk : -9223372036854775808 ≤ x.k ∧ x.k ≤ 9223372036854775807
theorem list4s {α : Type} {l : List α} (h : l.length = 4) : ∃ a b c d, l = [a, b, c, d] := by
  match l, h with
  | [a, b, c, d], _ => exact ⟨a, b, c, d, rfl⟩
set_option maxRecDepth 100000 in
theorem open_seat {H : Type} {enc : TypeId × Value → H} {w : World} {spare : Nat → Bool} {held : Bool} {r : Reach} {b0 : Nat} {v : Value} {d : DataW H} {ps : List MemPlace}
    (hv : Value.okWide Try.prog w r b0 54 v) (h : DataW.Trod enc Try.prog w 0 spare held 54 v d ps) : ∃ x : SeatP, v = .agg (encSeat x).toArray ∧ WfSeat w x := by
  obtain ⟨cs, rfl, hsz⟩ := okWide_struct Try.underlying54 hv
  obtain ⟨fuel, hf⟩ := h
  have hf0 : DataW.trod enc Try.prog w 0 spare held fuel 54 cs.toList = some (d, ps) := hf
  obtain ⟨xs, m, _, _, hlen, hxs, hf⟩ := DataW.trod_struct Try.underlying54 hf0
  obtain ⟨a, b, c, e, hcs⟩ := list4s (hlen.trans (show Try.prog.cellsOf 54 = 4 by kernel_rfl))
  rw [hcs] at hf
  have h0 : DataW.trod enc Try.prog w 0 spare held m 23 (([a, b, c, e].drop 0).take (Try.prog.cellsOf 23)) = xs[0]? := hf 0 _ rfl
  have h1 : DataW.trod enc Try.prog w 0 spare held m 22 (([a, b, c, e].drop 1).take (Try.prog.cellsOf 22)) = xs[1]? := hf 1 _ rfl
  have h2 : DataW.trod enc Try.prog w 0 spare held m 52 (([a, b, c, e].drop 2).take (Try.prog.cellsOf 52)) = xs[2]? := hf 2 _ rfl
  obtain ⟨y0, e0⟩ : ∃ y0, xs[0]? = some y0 := ⟨_, List.getElem?_eq_getElem (by rw [hxs]; decide)⟩
  obtain ⟨y1, e1⟩ : ∃ y0, xs[1]? = some y0 := ⟨_, List.getElem?_eq_getElem (by rw [hxs]; decide)⟩
  obtain ⟨y2, e2⟩ : ∃ y0, xs[2]? = some y0 := ⟨_, List.getElem?_eq_getElem (by rw [hxs]; decide)⟩
  rw [e0] at h0
  rw [e1] at h1
  rw [e2] at h2
  rw [show Try.prog.cellsOf 23 = 1 by kernel_rfl] at h0
  rw [show Try.prog.cellsOf 22 = 1 by kernel_rfl] at h1
  rw [show Try.prog.cellsOf 52 = 2 by kernel_rfl] at h2
  simp only [List.drop_succ_cons, List.drop_zero, List.take_succ_cons, List.take_zero] at h0 h1 h2
  obtain ⟨A0, n0, c0, rfl⟩ := okSlice Try.underlying23 h0
  obtain ⟨A1, n1, c1, rfl⟩ := okSlice Try.underlying22 h1
  obtain ⟨B, rfl, rb, hb, _⟩ := open_u8s h0
  obtain ⟨os, rfl, ro, wo⟩ := open_pops2 ⟨_, h1⟩
  obtain ⟨zs, m2, _, _, hlen2, hzs, hg⟩ := DataW.trod_struct Try.underlying52 h2
  have g0 : DataW.trod enc Try.prog w 0 spare held m2 3 (([c, e].drop 0).take (Try.prog.cellsOf 3)) = zs[0]? := hg 0 _ rfl
  have g1 : DataW.trod enc Try.prog w 0 spare held m2 3 (([c, e].drop 1).take (Try.prog.cellsOf 3)) = zs[1]? := hg 1 _ rfl
  obtain ⟨u0, f0⟩ : ∃ y0, zs[0]? = some y0 := ⟨_, List.getElem?_eq_getElem (by rw [hzs]; decide)⟩
  obtain ⟨u1, f1⟩ : ∃ y0, zs[1]? = some y0 := ⟨_, List.getElem?_eq_getElem (by rw [hzs]; decide)⟩
  rw [f0] at g0
  rw [f1] at g1
  rw [show Try.prog.cellsOf 3 = 1 by kernel_rfl] at g0 g1
  obtain ⟨q0, k0, _, w0⟩ := DataW.trod_int Try.underlying3 g0
  obtain ⟨q1, k1, _, w1⟩ := DataW.trod_int Try.underlying3 g1
  simp at k0 k1
  subst k0 k1
  exact ⟨⟨A0, c0, B, A1, c1, os, q0, q1⟩, congrArg Value.agg (by rw [encSeat, ← hcs]), ⟨rb, hb, ro, wo, wf_i64 w0, wf_i64 w1⟩⟩
end Go.Proofs.Ytbfogcckbhkciaa.Hand
namespace Go.Proofs.Ytbfogcckbhkciaa.Hand
open Go.RowKit Go.Maps Go.Proofs.YtbfogcckbhkciaaW.PrintWords Go.Proofs.YtbfogcckbhkciaaW.PrintLast Go.Proofs.Ytbfogcckbhkciaa.PHandRP
set_option linter.unusedVariables false
set_option linter.unusedSimpArgs false
theorem is_self {d : Dev} {n : Nat} (hl : d.B.length = 8 * n) : Is d n (word d.B) d.S d.F := ⟨hl, fun _ _ => rfl, fun _ => rfl, fun _ => rfl⟩
theorem is_sets {n : Nat} : ∀ (l : List SetT) (d : Dev) (W : Nat → List Int) (S : Nat → Option (List Int)) (F : Nat → Bool), (∀ s ∈ l, s.1.toNat < n) → Is d n W S F → ∃ S' F', Is (setsD d l) n (setW W l) S' F'
  | [], d, W, S, F, _, h => ⟨S, F, h⟩
  | s :: l, d, W, S, F, hm, h => by
    have hs := hm s (List.mem_cons_self ..)
    have h2 := (h.wr hs (leB_length s.2 8)).fl (i := s.1.toNat) (m := 1) (by omega)
    exact is_sets l (setD d s) (putW W s.1.toNat (leB s.2 8)) _ _ (fun x hx => hm x (List.mem_cons_of_mem _ hx)) h2
theorem is_recover {d : Dev} {n a k : Nat} (hd : d.Ok) (hl : d.B.length = 8 * n) (h1 : 1 ≤ k) (hak : a + k ≤ n) : ∃ W' S' F', Is (recoverD d a k) n W' S' F' ∧ ∀ j, j < n → W' j = setW (word d.B) (recD d a k).2 j := by
  have hn : d.B.length / 8 = n := by omega
  have hs := recD_sets hd h1 (by rw [hn]; exact hak)
  rw [hn] at hs
  obtain ⟨S', F', h⟩ := is_sets (recD d a k).2 d (word d.B) d.S d.F (fun s hm => by have := (okSt_range (hs.1 s hm)); omega) (is_self hl)
  rw [recover_is]
  split
  · exact ⟨_, _, _, h.fe, fun j hj => rfl⟩
  · exact ⟨_, _, _, h, fun j hj => rfl⟩
theorem recover_ok {d : Dev} {n a k : Nat} (hd : d.Ok) (hl : d.B.length = 8 * n) : (recoverD d a k).Ok ∧ (recoverD d a k).B.length = 8 * n := by
  rw [recover_is]
  have h := setsD_ok hd hl (recD d a k).2
  split
  · have h2 := Dev.step_ok h.1 (m := .fe) trivial
    exact ⟨h2.1, h2.2.trans h.2⟩
  · exact h
theorem recover_twice {d : Dev} {n a k : Nat} (hd : d.Ok) (hl : d.B.length = 8 * n) (h1 : 1 ≤ k) (hak : a + k ≤ n) : recD (recoverD d a k) a k = recD d a k ∧ (recoverD (recoverD d a k) a k).B = (recoverD d a k).B := by
  have hn : d.B.length / 8 = n := by omega
  have hs := recD_sets hd h1 (by rw [hn]; exact hak)
  rw [hn] at hs
  have hmay : ∀ s ∈ (recD d a k).2, mayB n a k s.1 = true := fun s hm => (hs.1 s hm).may
  obtain ⟨W', S', F', hi, hw⟩ := is_recover hd hl h1 hak
  have hr : recD (recoverD d a k) a k = recD d a k := by
    rw [recD_is hi hak, recD_is (is_self hl) hak]
    refine congrArg _ (mapW_congr (fun j h2 h3 => ?_))
    rw [hw j (by omega), setW_miss (hit_no hmay h2 h3)]
  refine ⟨hr, ?_⟩
  obtain ⟨h3, h4⟩ := recover_ok (a := a) (k := k) hd hl
  obtain ⟨W2, S2, F2, hi2, hw2⟩ := is_recover h3 h4 h1 hak
  have e1 := hi.cut (a := 0) (m := n) (by omega)
  have e2 := hi2.cut (a := 0) (m := n) (by omega)
  rw [cut, Nat.mul_zero, List.drop_zero, List.take_of_length_le (by rw [hi.len]; omega)] at e1
  rw [cut, Nat.mul_zero, List.drop_zero, List.take_of_length_le (by rw [hi2.len]; omega)] at e2
  rw [e1, e2]
  refine mapW_congr (fun j _ hj => ?_)
  rw [hw2 j (by omega), hr, hw j (by omega)]
  by_cases hh : hitS (recD d a k).2 j = true
  · exact setW_hit hh
  · rw [setW_miss (by simpa using hh), hi.w j (by omega), hw j (by omega)]
theorem madeW_below {w w' : World} {e : Ending} (h : MadeW w e w') : Below w.heap.size w w' := by
  rcases h with ⟨_, hb⟩ | ⟨_, _, _, _, _, _, _, _, _, _, _, _, _, _, _, _, hb⟩ <;> exact hb
set_option maxRecDepth 100000 in
set_option maxHeartbeats 8000000 in
theorem wrecovers_go (A0 : Option Addr) (c0 : Nat) (B : List Int) (A1 : Option Addr) (c1 : Nat) (os : List OpP) (a k : Int) (w : World) (hB : ReadsInt w .u8 A0 B.length B) (hby : Bys B) (ho : PoK.C w A1 os.length os) (hw : ∀ o ∈ os, WfPo w o) (hck : ∀ o ∈ os, o.ks.length ≤ o.c2)
    (ha : -9223372036854775808 ≤ a ∧ a ≤ 9223372036854775807) (hk : -9223372036854775808 ≤ k ∧ k ≤ 9223372036854775807) : Calls Try.prog 8 #[.agg #[.slice A0 B.length c0, .slice A1 os.length c1, .int .i64 a, .int .i64 k]] w fun e w' => e = .returned (.bool true) ∧ Below w.heap.size w w' := by
  have HMD := Aside0.mk (fun (W : World) (hW : Below w.heap.size w W) => made4_calls W A0 c0 B A1 c1 os (hB.below hW) hby (Kd.C_below ho hW) (fun o h => (hw o h).below hW) hck)
  obtain ⟨wa, hwa⟩ : ∃ wa, wa = w.alloc (.cells #[.slice A0 B.length c0, .slice A1 os.length c1, .int .i64 a, .int .i64 k] 54) := ⟨_, rfl⟩
  have HNB := Aside0.mk (show wa.heap[w.heap.size]? = some (.cells #[.slice A0 B.length c0, .slice A1 os.length c1, .int .i64 a, .int .i64 k] 54 (0, 0)) from by rw [hwa]; exact heap_alloc_new w _)
  have HBA := Aside0.mk (show Below w.heap.size w wa from by rw [hwa]; exact below_alloc (Below.refl _ _) _)
  have HLT := Aside0.mk (show w.heap.size < wa.heap.size from by rw [hwa, World.size_alloc]; omega)
  have HAK := Aside0.mk (And.intro ha hk)
  clear hB hby ho hw hck ha hk
  go_enter Try.func8, Try.ntmps8
  go_wp2_with (go_at_call 35; (rw [← hwa]; (with_reducible refine (HMD.out _ HBA.out).mono ?_); rintro e w1 hm; have hbm := madeW_below hm; have q2 := bel_cell hbm (blk_cell HNB.out (i := 2) rfl); have q3 := bel_cell hbm (blk_cell HNB.out (i := 3) rfl); clear hbm; rcases hm with ⟨rfl, hb⟩ | ⟨p, u, s, f, v, d, n, b, rfl, hd, hl, hv, how, hbs, hp, hv1, hb1⟩))
  · have HB1 := Aside0.mk (bel_step HBA.out hb)
    go_wp2_with (go_at_call 36; ((with_reducible refine (wal_alive _).mono ?_); rintro e w2 ⟨rfl, hb⟩; have HB2 := Aside0.mk (bel_step HB1.out hb); clear hb))
    go_ret
    exact ⟨rfl, HB2.out⟩
  have hn : n ≤ 8192 := by have := hd.ok.max; omega
  have h8 : d.B.length / 8 = n := by omega
  obtain ⟨A, c, rfl⟩ := Kd.V_slice hv
  rw [wdL_length] at hv ⊢
  have HB1 := Aside0.mk (bel_step HBA.out hb1)
  have HD1 := Aside0.mk hd
  have HV1 := Aside0.mk hv
  have HL := Aside0.mk hl
  have HOW := Aside0.mk how
  have HBS := Aside0.mk hbs
  have HOB := Aside0.mk (show ∀ b, OwnD u s f b → w.heap.size ≤ b from fun b hb => Nat.le_trans (Nat.le_of_lt HLT.out) (hv1 b hb))
  have HNX := Aside0.mk (show ¬ OwnD u s f w.heap.size from fun ho => by have := hv1 _ ho; have := HLT.out; omega)
  have HIN := Aside0.mk (fun (W : World) => rinside_calls W A n c a k hn HAK.out.1 HAK.out.2)
  clear hd hl hv how hbs hp hv1 hb1
  by_cases he : inR n a k = 0
  · obtain ⟨hk1, ha0, hak⟩ : 1 ≤ k ∧ 0 ≤ a ∧ a + k ≤ n := by
      unfold inR at he
      split at he
      · omega
      · split at he
        · omega
        · omega
    obtain ⟨a, rfl⟩ := Int.eq_ofNat_of_zero_le ha0
    obtain ⟨k, rfl⟩ := Int.eq_ofNat_of_zero_le (show 0 ≤ k by omega)
    rw [he] at HIN
    have HTW := Aside0.mk (recover_twice HD1.out.ok HL.out (a := a) (k := k) (by omega) (by omega))
    have HOK := Aside0.mk (recover_ok (a := a) (k := k) HD1.out.ok HL.out)
    have HRV := Aside0.mk (show Calls Try.prog 37 #[.pointer (some ⟨p, 0, none⟩), .int .i64 a, .int .i64 k] w1 (RecoverE w1 p u s f d a k) from recover4_good w1 p u s f d a k HD1.out (by omega) (by rw [h8]; omega))
    have HRR := Aside0.mk (fun (W : World) (hW : RowV W b (.slice A n c) d n) (hb : b ≤ W.heap.size) => rrecover_calls W b n (.slice A n c) d a k HD1.out.ok HL.out hW (by omega) (by omega) hb)
    have HR2 := Aside0.mk (fun (W : World) (hh : HasD W p u s f (recoverD d a k)) => recover4_good W p u s f (recoverD d a k) a k hh (by omega) (by rw [HOK.out.2, Nat.mul_div_cancel_left _ (by decide)]; omega))
    obtain ⟨q, hq⟩ : ∃ q, q = (recD d a k).1 := ⟨_, rfl⟩
    obtain ⟨d2, hd2⟩ : ∃ d2, d2 = recoverD d a k := ⟨_, rfl⟩
    rw [← hd2] at HTW HOK HRR HR2
    rw [← hq] at HRR
    have HQ := Aside0.mk hq
    have HD2E := Aside0.mk hd2
    clear he hq hd2 hk1 ha0 hak h8
    go_wp2_with (first | (go_at_call 37; (first | ((with_reducible refine HRV.out.mono ?_); rintro e w2 ⟨rfl, hd2, hf2⟩; rw [← HQ.out]; rw [← HD2E.out] at hd2; have HD2 := Aside0.mk hd2; have HB2 := Aside0.mk (HB1.out.trans (hf2.below _ HB1.out.size (fun b hb => HOB.out b hb))); have HV2 := Aside0.mk (show RowV w2 b (.slice A n c) d n from Kd.V_step HV1.out (fun j hj hlt => hf2.block j hlt (fun ho => absurd (HOW.out j ho) (Nat.not_lt.2 hj)))); have HS2 := Aside0.mk (Nat.le_trans HBS.out hf2.size); have r2 := hf2.cell q2 HNX.out; have r3 := hf2.cell q3 HNX.out; clear hd2 hf2) | ((with_reducible refine (HR2.out _ HD6.out).mono ?_); rintro e w7 ⟨rfl, hd7, hf7⟩; rw [HTW.out.1, ← HQ.out]; have HD7 := Aside0.mk hd7; have HB7 := Aside0.mk (HB6.out.trans (hf7.below _ HB6.out.size (fun b hb => HOB.out b hb))); clear hd7 hf7))) | (go_at_call 38; ((with_reducible refine (HIN.out _).mono ?_); rintro e w3 ⟨rfl, hb⟩; have HD3 := Aside0.mk (HD2.out.move hb); have HV3 := Aside0.mk (show RowV w3 b (.slice A n c) d n from Kd.V_below HV2.out hb); have HB3 := Aside0.mk (bel_step HB2.out hb); have HS3 := Aside0.mk (Nat.le_trans HS2.out hb.size); have s2 := bel_cell hb r2; have s3 := bel_cell hb r3; clear hb)) | (go_at_call 40; ((with_reducible refine (HRR.out _ HV3.out HS3.out).mono ?_); rintro e w4 ⟨v4, rfl, hv4, hb⟩; have HV4 := Aside0.mk hv4; have HD4 := Aside0.mk (HD3.out.move hb); have HB4 := Aside0.mk (bel_step HB3.out hb); have t2 := bel_cell hb s2; have t3 := bel_cell hb s3; clear hb hv4)) | (go_at_call 39; ((with_reducible refine (same4_calls _ p u s f d2 HD4.out HV4.out HOK.out.2).mono ?_); rintro e w5 ⟨rfl, hb⟩; have HD5 := Aside0.mk (HD4.out.move hb); have HB5 := Aside0.mk (bel_step HB4.out hb); have u2 := bel_cell hb t2; have u3 := bel_cell hb t3; clear hb)) | (go_at_call 22; (first | ((with_reducible refine (bytes_calls _ p u s f _ HD8.out).mono ?_); rintro e w9 ⟨u9, rfl, hr9, hb⟩; rw [HTW.out.2] at hr9; obtain ⟨A9, c9, rfl, _, hR9⟩ := reads_own2 hr9; have HB9 := Aside0.mk (bel_step HB8.out hb); have hcv9 := conv_n (c := c9) hR9; clear hr9 hR9 hb) | ((with_reducible refine (bytes_calls _ p u s f _ HD5.out).mono ?_); rintro e w6 ⟨u6, rfl, hr6, hb⟩; obtain ⟨A6, c6, rfl, _, hR6⟩ := reads_own2 hr6; have HB6 := Aside0.mk (bel_step HB5.out hb); have HD6 := Aside0.mk (HD5.out.move hb); have hcv6 := conv_n (c := c6) hR6; have x2 := bel_cell hb u2; have x3 := bel_cell hb u3; clear hr6 hR6 hb))) | (go_at_call 36; ((with_reducible refine (wal_alive _).mono ?_); rintro e w8 ⟨rfl, hb⟩; have HB8 := Aside0.mk (bel_step HB7.out hb); have HD8 := Aside0.mk (HD7.out.move hb); clear hb)))
    go_ret
    exact ⟨by simp, HB9.out⟩
  · have HRV := Aside0.mk (recover4_bad w1 p u s f d a k HD1.out (by rw [h8]; exact he))
    rw [h8] at HRV
    obtain ⟨x, hx⟩ : ∃ x, x = inR n a k := ⟨_, rfl⟩
    rw [← hx] at HRV HIN he
    have z : (x == 0) = false := by rw [beq_eq_false_iff_ne]; exact he
    clear hx he h8
    go_wp2_with (first | (go_at_call 37; ((with_reducible refine HRV.out.mono ?_); rintro e w2 ⟨rfl, hb⟩; have HD2 := Aside0.mk (HD1.out.move hb); have HV2 := Aside0.mk (show RowV w2 b (.slice A n c) d n from Kd.V_below HV1.out hb); have HB2 := Aside0.mk (bel_step HB1.out hb); have r2 := bel_cell hb q2; have r3 := bel_cell hb q3; clear hb)) | (go_at_call 38; ((with_reducible refine (HIN.out _).mono ?_); rintro e w3 ⟨rfl, hb⟩; have HD3 := Aside0.mk (HD2.out.move hb); have HV3 := Aside0.mk (show RowV w3 b (.slice A n c) d n from Kd.V_below HV2.out hb); have HB3 := Aside0.mk (bel_step HB2.out hb); clear hb)) | (go_at_call 36; ((with_reducible refine (wal_alive _).mono ?_); rintro e w4 ⟨rfl, hb⟩; have HD4 := Aside0.mk (HD3.out.move hb); have HV4 := Aside0.mk (show RowV w4 b (.slice A n c) d n from Kd.V_below HV3.out hb); have HB4 := Aside0.mk (bel_step HB3.out hb); clear hb)) | (go_at_call 39; ((with_reducible refine (same4_calls _ p u s f d HD4.out HV4.out HL.out).mono ?_); rintro e w5 ⟨rfl, hb⟩; have HB5 := Aside0.mk (bel_step HB4.out hb); clear hb)))
    go_ret
    exact ⟨rfl, HB5.out⟩
theorem walRecovers_walk (x : SeatP) (w : World) (hx : WfSeat w x) : Calls Try.prog 8 #[.agg (encSeat x).toArray] w fun e w' => e = .returned (.bool true) ∧ Below w.heap.size w w' :=
  wrecovers_go x.A0 x.c0 x.B x.A1 x.c1 x.os x.a x.k w hx.rb hx.by_ hx.ro (fun o h => (hx.wo o h).1) (fun o h => (hx.wo o h).2) hx.ha hx.hk
end Go.Proofs.Ytbfogcckbhkciaa.Hand
