/- CrcTwo, walked. -/
import Derived.Test.YtjmmafonidgimaaHandCrcAlive
import Derived.Test.YtjmmafonidgimaaHandAppend
import Derived.Deep.QuietTactic
import Derived.Test.YtjmmafonidgimaaWLast
namespace Go.Proofs.Ytjmmafonidgimaa.Hand
open Go.RowKit Go.Proofs.YtjmmafonidgimaaW.PrintWords Go.Proofs.YtjmmafonidgimaaW.PrintLast
set_option linter.unusedSimpArgs false

theorem two_big (A B : Option Addr) (c d : Nat) (l m : List Int) (w : World) (hl : l.length ≤ 9223372036854775807) (h : ¬ l.length = m.length ∨ 5000 < l.length) :
    Calls Try.prog 6 #[.slice A l.length c, .slice B m.length d] w fun e w' => e = .returned (.bool true) ∧ Below w.heap.size w w' := by
  by_cases h1 : l.length = m.length
  · have h3 : 5000 < l.length := by omega
    go_enter Try.func6, Try.ntmps6
    go_wp2_with (go_at_call 8; (with_reducible refine (crc_alive _).mono ?_); rintro e wA ⟨rfl, hbA⟩; have HBA := Aside0.mk hbA; clear hbA)
    go_ret
    exact ⟨rfl, HBA.out⟩
  · go_enter Try.func6, Try.ntmps6
    go_wp2_with (go_at_call 8; (with_reducible refine (crc_alive _).mono ?_); rintro e wA ⟨rfl, hbA⟩; have HBA := Aside0.mk hbA; clear hbA)
    go_ret
    exact ⟨rfl, HBA.out⟩
theorem xorL_length {l m : List Int} (h : l.length = m.length) : (xorL l m).length = l.length := by
  induction l generalizing m with
  | nil => rfl
  | cons a l ih =>
    cases m with
    | nil => simp at h
    | cons b m => simp only [xorL, List.length_cons]; rw [ih (by simpa using h)]
theorem xorL_snoc {l m : List Int} (h : l.length = m.length) (a b : Int) : xorL (l ++ [a]) (m ++ [b]) = xorL l m ++ [((a.toNat ^^^ b.toNat : Nat) : Int)] := by
  induction l generalizing m with
  | nil =>
    cases m with
    | nil => rfl
    | cons b m => simp at h
  | cons a l ih =>
    cases m with
    | nil => simp at h
    | cons b m => simp only [xorL, List.cons_append]; rw [ih (by simpa using h)]
theorem tI_xor64 (x y : V16) : bits .xor .i64 (tI x) (tI y) = tI (x ^^^ y) := by
  have hx := x.isLt
  have hy := y.isLt
  have hlt : x.toNat ^^^ y.toNat < 2 ^ 16 := Nat.xor_lt_two_pow hx hy
  have h : ∀ a : Nat, a < 65536 → (BitVec.ofInt 64 (a : Int)).toNat = a := fun a ha => by
    rw [BitVec.ofInt_natCast, BitVec.toNat_ofNat]; exact Nat.mod_eq_of_lt (by omega)
  show IntKind.i64.wrap ((BitVec.ofInt 64 (x.toNat : Int) ^^^ BitVec.ofInt 64 (y.toNat : Int)).toNat : Int) = _
  rw [BitVec.toNat_xor, h _ (by omega), h _ (by omega), tI, BitVec.toNat_xor]
  exact IntWalk.i64_in _ (by omega)
set_option maxHeartbeats 1000000 in
theorem two_small (A B : Option Addr) (c d : Nat) (l m : List Int) (w : World) (hr : ReadsInt w .u8 A l.length l) (hs : ReadsInt w .u8 B m.length m) (hbl : Bys l) (hbm : Bys m) (h : l.length = m.length) (h2 : l.length ≤ 5000) :
    Calls Try.prog 6 #[.slice A l.length c, .slice B m.length d] w fun e w' => e = .returned (.bool true) ∧ Below w.heap.size w w' := by
  have HR := Aside0.mk hr
  have HS := Aside0.mk hs
  have hlm : Aside0 (l.length = m.length) := ⟨h⟩
  have HBL := Aside0.mk hbl
  have HBM := Aside0.mk hbm
  clear hr hs hbl hbm
  have h2 : m.length ≤ 5000 := by omega
  go_enter Try.func6, Try.ntmps6
  go_wp2
  clear h
  go_loopw [5, 20] (fun v i wr => ∃ k : Nat, k ≤ m.length ∧ i = .int .i64 k ∧ Aside0 (Kd.R (Kd.int .u8) 5 wr 0 (New w) v (xorL (l.take k) (m.take k))) ∧ Aside0 (Below w.heap.size w wr)) (fun _ i _ => (m.length - intOf i).toNat)
  case atStart => exact ⟨0, Nat.zero_le _, rfl, ⟨Kd.R_nil _ _ _ _ _⟩, ⟨Below.refl _ _⟩⟩
  case round =>
    obtain ⟨k, hk, rfl, HO, HB⟩ := hrel
    obtain ⟨Av, cv, rfl, hcv, hRv⟩ := reads_own2 HO.out
    have HCV := Aside0.mk (And.intro hcv hRv)
    clear hcv hRv
    obtain ⟨xs, hxs⟩ : ∃ xs, xs = xorL (l.take k) (m.take k) := ⟨_, rfl⟩
    rw [← hxs] at HO HCV ⊢
    have HX := Aside0.mk hxs
    clear hxs
    by_cases hlt : k < m.length
    · have hkl : k < l.length := by have := hlm.out; omega
      obtain ⟨ad, rfl, hx⟩ := HR.out.2.2 (by omega)
      obtain ⟨bd, rfl, hy⟩ := HS.out.2.2 (by omega)
      have HCX := Aside0.mk (show ∀ W, Below w.heap.size w W → W.cell? (ad.add k) = some (.int .u8 (rd l k)) ∧ W.cell? (bd.add k) = some (.int .u8 (rd m k)) from fun W hW =>
        ⟨(hW.cell (World.block_lt_of_cell? w _ (hx k hkl))).trans (hx k hkl), (hW.cell (World.block_lt_of_cell? w _ (hy k hlt))).trans (hy k hlt)⟩)
      clear hx hy
      have hxl : xs.length = k := by rw [HX.out, xorL_length (by rw [List.length_take, List.length_take]; omega), List.length_take]; omega
      have HXL := Aside0.mk hxl
      clear hxl
      obtain ⟨z, hz⟩ : ∃ z, z = bits .xor .u8 (rd l k) (rd m k) := ⟨_, rfl⟩
      have HZ := Aside0.mk hz
      have hz' : bits .xor .u8 (rd l k) (rd m k) = z := hz.symm
      clear hz
      go_wp2
      refine start_ (n := 13) (S := fun w' => w'.cell? (ad.add k) = some (.int .u8 (rd l k)) ∧ w'.cell? (bd.add k) = some (.int .u8 (rd m k))) (ds := []) #[false, false, false, false, false, false, false, false, false, false, false, false, false] (by kernel_rfl) rfl rfl ⟨(HCX.out _ HB.out.drew).1, (HCX.out _ HB.out.drew).2⟩ (fun hHeld => ?_)
      refine pure_ (i := 0) (N := some 23) (v := ?_) (a' := ?_) #[true, false, false, false, false, false, false, false, false, false, false, false, false] rfl rfl (by kernel_rfl) (fun _ _ _ h => h) (Or.inl ⟨by rfl, ?_⟩) ?_ ?_
      rotate_left
      · intro w'
        go_simp
        with_reducible rfl
      rotate_left
      · simp only [Act.put, List.setIfInBounds_toArray, List.set_cons_zero, List.set_cons_succ, i64_w, i32_w]
        rfl
      refine pure_ (i := 1) (N := some 24) (v := ?_) (a' := ?_) #[true, true, false, false, false, false, false, false, false, false, false, false, false] rfl rfl (by kernel_rfl) (fun _ _ _ h => h) (Or.inl ⟨by rfl, ?_⟩) ?_ ?_
      rotate_left
      · intro w'
        go_simp
        with_reducible rfl
      rotate_left
      · simp only [Act.put, List.setIfInBounds_toArray, List.set_cons_zero, List.set_cons_succ, i64_w, i32_w]
        rfl
      refine pure_ (i := 2) (N := some 25) (v := ?_) (a' := ?_) #[true, true, true, false, false, false, false, false, false, false, false, false, false] rfl rfl (by kernel_rfl) (fun _ _ _ h => h) (Or.inl ⟨by rfl, ?_⟩) ?_ ?_
      rotate_left
      · intro w'
        go_simp
        with_reducible rfl
      rotate_left
      · simp only [Act.put, List.setIfInBounds_toArray, List.set_cons_zero, List.set_cons_succ, i64_w, i32_w]
        rfl
      refine pure_ (i := 3) (N := some 26) (v := ?_) (a' := ?_) #[true, true, true, true, false, false, false, false, false, false, false, false, false] rfl rfl (by kernel_rfl) (fun _ _ _ h => h) (Or.inl ⟨by rfl, ?_⟩) ?_ ?_
      rotate_left
      · intro w'
        go_simp
        with_reducible rfl
      rotate_left
      · simp only [Act.put, List.setIfInBounds_toArray, List.set_cons_zero, List.set_cons_succ, i64_w, i32_w]
        rfl
      refine pure_ (i := 5) (N := some 28) (v := ?_) (a' := ?_) #[true, true, true, true, false, true, false, false, false, false, false, false, false] rfl rfl (by kernel_rfl) (fun _ _ _ h => h) (Or.inl ⟨by rfl, ?_⟩) ?_ ?_
      rotate_left
      · intro w'
        go_simp
        with_reducible rfl
      rotate_left
      · simp only [Act.put, List.setIfInBounds_toArray, List.set_cons_zero, List.set_cons_succ, i64_w, i32_w]
        rfl
      refine pure_ (i := 6) (N := some 29) (v := ?_) (a' := ?_) #[true, true, true, true, false, true, true, false, false, false, false, false, false] rfl rfl (by kernel_rfl) (fun _ _ _ h => h) (Or.inl ⟨by rfl, ?_⟩) ?_ ?_
      rotate_left
      · intro w'
        go_simp
        with_reducible rfl
      rotate_left
      · simp only [Act.put, List.setIfInBounds_toArray, List.set_cons_zero, List.set_cons_succ, i64_w, i32_w]
        rfl
      refine pure_ (i := 7) (N := some 30) (v := ?_) (a' := ?_) #[true, true, true, true, false, true, true, true, false, false, false, false, false] rfl rfl (by kernel_rfl) (fun _ _ _ h => h) (Or.inl ⟨by rfl, ?_⟩) ?_ ?_
      rotate_left
      · intro w'
        go_simp
        with_reducible rfl
      rotate_left
      · simp only [Act.put, List.setIfInBounds_toArray, List.set_cons_zero, List.set_cons_succ, i64_w, i32_w]
        rfl
      refine take_ (i := 4) (N := some 27) (v := ?_) (a' := ?_) #[true, true, true, true, true, true, true, true, false, false, false, false, false] rfl rfl (by kernel_rfl) (fun _ _ _ h => h) (Or.inl ⟨by rfl, ?_⟩) hHeld ?_ ?_
      rotate_left
      · rintro w' ⟨s0, s1⟩
        go_simp
        with_reducible rfl
      rotate_left
      · simp only [Act.put, List.setIfInBounds_toArray, List.set_cons_zero, List.set_cons_succ, i64_w, i32_w]
        rfl
      refine take_ (i := 8) (N := some 31) (v := ?_) (a' := ?_) #[true, true, true, true, true, true, true, true, true, false, false, false, false] rfl rfl (by kernel_rfl) (fun _ _ _ h => h) (Or.inl ⟨by rfl, ?_⟩) hHeld ?_ ?_
      rotate_left
      · rintro w' ⟨s0, s1⟩
        go_simp
        with_reducible rfl
      rotate_left
      · simp only [Act.put, List.setIfInBounds_toArray, List.set_cons_zero, List.set_cons_succ, i64_w, i32_w]
        rfl
      refine pure_ (i := 9) (N := some 32) (v := ?_) (a' := ?_) #[true, true, true, true, true, true, true, true, true, true, false, false, false] rfl rfl (by kernel_rfl) (fun _ _ _ h => h) (Or.inl ⟨by rfl, ?_⟩) ?_ ?_
      rotate_left
      · intro w'
        go_simp
        with_reducible rfl
      rotate_left
      · simp only [Act.put, List.setIfInBounds_toArray, List.set_cons_zero, List.set_cons_succ, i64_w, i32_w]
        rfl
      refine one_ (i := 10) (N := some 33) #[true, true, true, true, true, true, true, true, true, true, true, false, false] rfl rfl (by kernel_rfl) (by decide) (fun K hK => ?_)
      refine value_ (w1 := ?_) (v := ?_) (by rfl) rfl ?_ ?_
      rotate_left 2
      · go_simp
        constructor
        · rfl
        · rfl
      refine hK.out _ _ ⟨(HCX.out _ (below_alloc HB.out.drew _)).1, (HCX.out _ (below_alloc HB.out.drew _)).2⟩ (fun hHeld => ?_)
      clear hK K
      refine norm_ (a' := ?_) ?_ ?_
      rotate_left
      · show Act.put _ (some 33) _ = _
        simp only [Act.put, List.setIfInBounds_toArray, List.set_cons_zero, List.set_cons_succ, i64_w, i32_w]
        rfl
      refine one_ (i := 11) (N := some 34) #[true, true, true, true, true, true, true, true, true, true, true, true, false] rfl rfl (by kernel_rfl) (by decide) (fun K hK => ?_)
      refine Kd.R_append_step (Kd.int .u8) (w0 := wr.drew) (W := wr.drew) 0 ?hw (.tmp 23) (.tmp 33) 22 5 (.int .u8 0) 1 rfl Try.underlying22 info_u8 rfl (by decide) (by omega) (.slice Av xs.length cv) xs z [.int .u8 z] (New w) (fun _ => False) rfl rfl rfl (fun _ hk => hk.elim) (fun k hk => Nat.le_trans HB.out.size hk) (Kd.R_below HO.out (Below.refl _ _).drew) (Below.refl _ _) (Nat.zero_le _) (by have := HXL.out; omega) ?_
      case hw => rfl
      intro v1 w1 hr1 hb1 hg1 hat1
      have HRn := Aside0.mk hr1
      have HBn := Aside0.mk ((HB.out.drew).grown hg1 HB.out.size (fun k hk => HO.out.1 k hk))
      clear hr1 hb1 hg1 hat1
      refine hK.out _ _ ⟨(HCX.out _ HBn.out).1, (HCX.out _ HBn.out).2⟩ (fun hHeld => ?_)
      clear hK K
      refine norm_ (a' := ?_) ?_ ?_
      rotate_left
      · show Act.put _ (some 34) _ = _
        simp only [Act.put, List.setIfInBounds_toArray, List.set_cons_zero, List.set_cons_succ, i64_w, i32_w]
        rfl
      refine pure_ (i := 12) (N := some 5) (v := ?_) (a' := ?_) #[true, true, true, true, true, true, true, true, true, true, true, true, true] rfl rfl (by kernel_rfl) (fun _ _ _ h => h) (Or.inl ⟨by rfl, ?_⟩) ?_ ?_
      rotate_left
      · intro w'
        go_simp
        with_reducible rfl
      rotate_left
      · simp only [Act.put, List.setIfInBounds_toArray, List.set_cons_zero, List.set_cons_succ, i64_w, i32_w]
        rfl
      refine done_ (by kernel_rfl) ?_

      go_wp2
      go_roundw
      case rel => exact ⟨k + 1, by omega, by go_num, ⟨by
        have ha := rd_bys HBL.out k
        have hb := rd_bys HBM.out k
        rw [take_rd hkl, take_rd hlt, xorL_snoc (by rw [List.length_take, List.length_take]; omega), ← HX.out, ← u8_xor _ _ ha.1 ha.2 hb.1 hb.2, hz']
        exact HRn.out⟩, HBn⟩
      case measure => simp [intOf]; omega
    · obtain rfl : k = m.length := by omega
      have hX : bits .xor .i64 (crcI l) (crcI m) = crcI xs := by
        have h1 := HX.out
        have h3 := hlm.out
        rw [List.take_of_length_le (by omega), List.take_of_length_le (by omega)] at h1
        rw [crcI, crcI, tI_xor64, crcI, h1, ← crcV_xor _ _ _ _ h3 HBL.out HBM.out]
        rfl
      have hxl : xs.length ≤ 5000 := by
        have h1 := HX.out
        have h3 := hlm.out
        rw [h1, xorL_length (by rw [List.length_take, List.length_take]; omega), List.length_take]
        omega
      have hll : l.length ≤ 5000 := by have h3 := hlm.out; omega
      go_wp2_with (first | (go_at_call 8; (with_reducible refine (crc_alive _).mono ?_); rintro e wA ⟨rfl, hbA⟩; have HBA := Aside0.mk (bel_step HB.out hbA); have HXA := Aside0.mk (HCV.out.2.below hbA); clear hbA) | (go_at_call 13; (with_reducible refine (sum_one xs Av cv wA.heap.size 1 _ (heap_alloc_new wA _) (HXA.out.below (below_alloc (Below.refl _ _) _)) (by omega)).mono ?_); rintro e w1 ⟨rfl, hb1⟩; have HB1 := Aside0.mk (bel_step (below_alloc HBA.out _) hb1); clear hb1) | (go_at_call 13; (with_reducible refine (sum_one l A c w1.heap.size 1 _ (heap_alloc_new w1 _) (HR.out.below (below_alloc HB1.out _)) (by omega)).mono ?_); rintro e w2 ⟨rfl, hb2⟩; have HB2 := Aside0.mk (bel_step (below_alloc HB1.out _) hb2); clear hb2) | (go_at_call 13; (with_reducible refine (sum_one m B d w2.heap.size 1 _ (heap_alloc_new w2 _) (HS.out.below (below_alloc HB2.out _)) (by omega)).mono ?_); rintro e w3 ⟨rfl, hb3⟩; have HB3 := Aside0.mk (bel_step (below_alloc HB2.out _) hb3); clear hb3))
      go_ret
      exact ⟨rfl, HB3.out⟩
theorem crcTwo_walk (A : Option Addr) (c : Nat) (l : List Int) (B : Option Addr) (d : Nat) (m : List Int) (w : World) (hr : ReadsInt w .u8 A l.length l) (hbl : Bys l) (_y1 : l.length ≤ 140737488351232) (hs : ReadsInt w .u8 B m.length m) (hbm : Bys m) (_y2 : m.length ≤ 140737488351232) :
    Calls Try.prog 6 #[.slice A l.length c, .slice B m.length d] w fun e w' => e = .returned (.bool true) ∧ Below w.heap.size w w' := by
  by_cases h : ¬ l.length = m.length ∨ 5000 < l.length
  · exact two_big A B c d l m w hr.2.1 h
  · exact two_small A B c d l m w hr hs hbl hbm (by omega) (by omega)
end Go.Proofs.Ytjmmafonidgimaa.Hand
