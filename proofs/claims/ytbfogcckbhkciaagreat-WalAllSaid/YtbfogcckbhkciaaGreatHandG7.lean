/- What a claim needs of the walks and contracts, part 7. -/
import Derived.Maps.OwnIn
import Derived.Test.YtbfogcckbhkciaaGreatHandG6
namespace Go.Proofs.YtbfogcckbhkciaaGreat.Hand
set_option linter.unusedVariables false
set_option linter.unusedSimpArgs false
attribute [local go_sem] Oper.semAt_some
open Go.RowKit Go.Maps Go.Proofs.YtbfogcckbhkciaaGreatW.PrintWords Go.Proofs.YtbfogcckbhkciaaGreatW.PrintLast
set_option linter.unusedVariables false
set_option linter.unusedSimpArgs false
set_option maxRecDepth 100000 in
set_option maxHeartbeats 8000000 in
theorem steps1_goes (n : Nat) (hn1 : 1 ≤ n) (w0 : World) (n0 B : Nat) (bl bb bh bs q p a gb cb gh ch : Nat) (As : Option Addr) (cs : Nat) (b h : List Int) (sets : List SetT) (hc0 : CapW w0 bl bb bh bs q p a gb cb gh ch As cs b h sets) (hB0 : Boxed w0 B 43 (.slice none 0 0)) (m : Nat) (hbl : b.length = 8 * m) (hbm : 1 ≤ m) (hn00 : n0 ≤ w0.heap.size) (hng : n0 ≤ gb ∧ n0 ≤ gh ∧ n0 ≤ bl) (h8 : h.length = 8) (hbb : Bys b) (hbh : Bys h) (ha : a + 1 + m ≤ 8192) (hss : ∀ s ∈ sets, s.1 ≤ 8192 ∧ PosSt s) (hsl : sets.length ≤ 8192) :
    SeqZ n Tryz.prog 60 #[.pointer (some ⟨bl, 0, none⟩), .pointer (some ⟨bb, 0, none⟩), .pointer (some ⟨bh, 0, none⟩), .pointer (some ⟨bs, 0, none⟩)] (fun y : StepW × StepM => encW y.1) (ZW n0 B q p) (KW B) (fun ys => ys.map Prod.snd = walS a h b sets) 60000 w0 := by
  intro l J W hW hJ hY h0
  have hc := hc0.below hW
  have hBW : Boxed W B 43 (.slice none 0 0) := (hW.block B hB0.lt).trans hB0
  have hn0 : n0 ≤ W.heap.size := Nat.le_trans hn00 hW.size
  refine callsIn_wide.2 ?_
  show Calls Tryz.prog 60 #[.func (.yield l) #[] #[], .pointer (some ⟨bl, 0, none⟩), .pointer (some ⟨bb, 0, none⟩), .pointer (some ⟨bh, 0, none⟩), .pointer (some ⟨bs, 0, none⟩)] W _
  have HJ := Aside0.mk hJ
  have HY2 := Aside0.mk hY
  have HJ0 := Aside0.mk h0
  have HBX := Aside0.mk hBW
  have HWS := Aside0.mk (show walS a h b sets = stepA a ++ stepB a b m ++ stepC a m h ++ stepE sets ++ [.fe] by rw [walS, show b.length / 8 = m by omega])
  clear hJ hY h0 hBW hc0 hB0 hW hn00
  have HC := Aside0.mk hc
  have HSS := Aside0.mk hss
  have HGB := Aside0.mk (show gb < W.heap.size by
    obtain ⟨ad, e, hx⟩ := hc.xrb.2.2 (by omega)
    obtain rfl := Option.some.inj e
    have := World.block_lt_of_cell? _ _ (hx 0 (by omega))
    rwa [add_plain] at this)
  have HGH := Aside0.mk (show gh < W.heap.size by
    obtain ⟨ad, e, hx⟩ := hc.xrh.2.2 (by omega)
    obtain rfl := Option.some.inj e
    have := World.block_lt_of_cell? _ _ (hx 0 (by omega))
    rwa [add_plain] at this)
  have km := print_make_int (P := Tryz.prog) 22 5 (.int .u8 0) 1 Tryz.underlying22 info_u8 rfl (by decide) 8 (by omega) (by omega)
  go_enter Tryz.func60, Tryz.ntmps60
  go_wp2_with fail
  refine start_ (n := 20) (S := fun w' => w'.cell? ⟨bl, 0, none⟩ = some (.pointer (some ⟨q, 0, none⟩)) ∧ w'.cell? ⟨q, 0, none⟩ = some (.pointer (some ⟨p, 0, none⟩)) ∧ w'.cell? ⟨q, 1, none⟩ = some (.int .i64 a)) (ds := []) #[false, false, false, false, false, false, false, false, false, false, false, false, false, false, false, false, false, false, false, false] (by kernel_rfl) rfl rfl ⟨hc.xl, hc.x0, hc.x1⟩ (fun hHeld => ?_)
  refine take_ (i := 0) (N := some 12) (v := ?_) (a' := ?_) #[true, false, false, false, false, false, false, false, false, false, false, false, false, false, false, false, false, false, false, false] rfl rfl (by kernel_rfl) (fun _ _ _ h => h) (Or.inl ⟨by rfl, ?_⟩) hHeld ?_ ?_
  rotate_left
  · rintro w' ⟨s0, s1, s2⟩
    go_simp
    with_reducible rfl
  rotate_left
  · simp only [Act.put, List.setIfInBounds_toArray, List.set_cons_zero, List.set_cons_succ, i64_w, i32_w]
    rfl
  refine take_ (i := 1) (N := some 13) (v := ?_) (a' := ?_) #[true, true, false, false, false, false, false, false, false, false, false, false, false, false, false, false, false, false, false, false] rfl rfl (by kernel_rfl) (fun _ _ _ h => h) (Or.inl ⟨by rfl, ?_⟩) hHeld ?_ ?_
  rotate_left
  · rintro w' ⟨s0, s1, s2⟩
    go_simp
    with_reducible rfl
  rotate_left
  · simp only [Act.put, List.setIfInBounds_toArray, List.set_cons_zero, List.set_cons_succ, i64_w, i32_w]
    rfl
  refine pure_ (i := 2) (N := some 14) (v := ?_) (a' := ?_) #[true, true, true, false, false, false, false, false, false, false, false, false, false, false, false, false, false, false, false, false] rfl rfl (by kernel_rfl) (fun _ _ _ h => h) (Or.inl ⟨by rfl, ?_⟩) ?_ ?_
  rotate_left
  · intro w'
    go_simp
    with_reducible rfl
  rotate_left
  · simp only [Act.put, List.setIfInBounds_toArray, List.set_cons_zero, List.set_cons_succ, i64_w, i32_w]
    rfl
  refine pure_ (i := 3) (N := some 15) (v := ?_) (a' := ?_) #[true, true, true, true, false, false, false, false, false, false, false, false, false, false, false, false, false, false, false, false] rfl rfl (by kernel_rfl) (fun _ _ _ h => h) (Or.inl ⟨by rfl, ?_⟩) ?_ ?_
  rotate_left
  · intro w'
    go_simp
    with_reducible rfl
  rotate_left
  · simp only [Act.put, List.setIfInBounds_toArray, List.set_cons_zero, List.set_cons_succ, i64_w, i32_w]
    rfl
  refine take_ (i := 4) (N := some 16) (v := ?_) (a' := ?_) #[true, true, true, true, true, false, false, false, false, false, false, false, false, false, false, false, false, false, false, false] rfl rfl (by kernel_rfl) (fun _ _ _ h => h) (Or.inl ⟨by rfl, ?_⟩) hHeld ?_ ?_
  rotate_left
  · rintro w' ⟨s0, s1, s2⟩
    go_simp
    with_reducible rfl
  rotate_left
  · simp only [Act.put, List.setIfInBounds_toArray, List.set_cons_zero, List.set_cons_succ, i64_w, i32_w]
    rfl
  refine take_ (i := 7) (N := some 19) (v := ?_) (a' := ?_) #[true, true, true, true, true, false, false, true, false, false, false, false, false, false, false, false, false, false, false, false] rfl rfl (by kernel_rfl) (fun _ _ _ h => h) (Or.inl ⟨by rfl, ?_⟩) hHeld ?_ ?_
  rotate_left
  · rintro w' ⟨s0, s1, s2⟩
    go_simp
    with_reducible rfl
  rotate_left
  · simp only [Act.put, List.setIfInBounds_toArray, List.set_cons_zero, List.set_cons_succ, i64_w, i32_w]
    rfl
  refine take_ (i := 8) (N := some 20) (v := ?_) (a' := ?_) #[true, true, true, true, true, false, false, true, true, false, false, false, false, false, false, false, false, false, false, false] rfl rfl (by kernel_rfl) (fun _ _ _ h => h) (Or.inl ⟨by rfl, ?_⟩) hHeld ?_ ?_
  rotate_left
  · rintro w' ⟨s0, s1, s2⟩
    go_simp
    with_reducible rfl
  rotate_left
  · simp only [Act.put, List.setIfInBounds_toArray, List.set_cons_zero, List.set_cons_succ, i64_w, i32_w]
    rfl
  refine pure_ (i := 9) (N := some 21) (v := ?_) (a' := ?_) #[true, true, true, true, true, false, false, true, true, true, false, false, false, false, false, false, false, false, false, false] rfl rfl (by kernel_rfl) (fun _ _ _ h => h) (Or.inl ⟨by rfl, ?_⟩) ?_ ?_
  rotate_left
  · intro w'
    go_simp
    with_reducible rfl
  rotate_left
  · simp only [Act.put, List.setIfInBounds_toArray, List.set_cons_zero, List.set_cons_succ, i64_w, i32_w]
    rfl
  refine pure_ (i := 10) (N := some 22) (v := ?_) (a' := ?_) #[true, true, true, true, true, false, false, true, true, true, true, false, false, false, false, false, false, false, false, false] rfl rfl (by kernel_rfl) (fun _ _ _ h => h) (Or.inl ⟨by rfl, ?_⟩) ?_ ?_
  rotate_left
  · intro w'
    go_simp
    with_reducible rfl
  rotate_left
  · simp only [Act.put, List.setIfInBounds_toArray, List.set_cons_zero, List.set_cons_succ, i64_w, i32_w]
    rfl
  refine take_ (i := 11) (N := some 23) (v := ?_) (a' := ?_) #[true, true, true, true, true, false, false, true, true, true, true, true, false, false, false, false, false, false, false, false] rfl rfl (by kernel_rfl) (fun _ _ _ h => h) (Or.inl ⟨by rfl, ?_⟩) hHeld ?_ ?_
  rotate_left
  · rintro w' ⟨s0, s1, s2⟩
    go_simp
    with_reducible rfl
  rotate_left
  · simp only [Act.put, List.setIfInBounds_toArray, List.set_cons_zero, List.set_cons_succ, i64_w, i32_w]
    rfl
  refine take_ (i := 13) (N := some 25) (v := ?_) (a' := ?_) #[true, true, true, true, true, false, false, true, true, true, true, true, false, true, false, false, false, false, false, false] rfl rfl (by kernel_rfl) (fun _ _ _ h => h) (Or.inl ⟨by rfl, ?_⟩) hHeld ?_ ?_
  rotate_left
  · rintro w' ⟨s0, s1, s2⟩
    go_simp
    with_reducible rfl
  rotate_left
  · simp only [Act.put, List.setIfInBounds_toArray, List.set_cons_zero, List.set_cons_succ, i64_w, i32_w]
    rfl
  refine pure_ (i := 14) (N := some 26) (v := ?_) (a' := ?_) #[true, true, true, true, true, false, false, true, true, true, true, true, false, true, true, false, false, false, false, false] rfl rfl (by kernel_rfl) (fun _ _ _ h => h) (Or.inl ⟨by rfl, ?_⟩) ?_ ?_
  rotate_left
  · intro w'
    go_simp
    with_reducible rfl
  rotate_left
  · simp only [Act.put, List.setIfInBounds_toArray, List.set_cons_zero, List.set_cons_succ, i64_w, i32_w]
    rfl
  refine pure_ (i := 15) (N := some 27) (v := ?_) (a' := ?_) #[true, true, true, true, true, false, false, true, true, true, true, true, false, true, true, true, false, false, false, false] rfl rfl (by kernel_rfl) (fun _ _ _ h => h) (Or.inl ⟨by rfl, ?_⟩) ?_ ?_
  rotate_left
  · intro w'
    go_simp
    with_reducible rfl
  rotate_left
  · simp only [Act.put, List.setIfInBounds_toArray, List.set_cons_zero, List.set_cons_succ, i64_w, i32_w]
    rfl
  refine take_ (i := 16) (N := some 28) (v := ?_) (a' := ?_) #[true, true, true, true, true, false, false, true, true, true, true, true, false, true, true, true, true, false, false, false] rfl rfl (by kernel_rfl) (fun _ _ _ h => h) (Or.inl ⟨by rfl, ?_⟩) hHeld ?_ ?_
  rotate_left
  · rintro w' ⟨s0, s1, s2⟩
    go_simp
    with_reducible rfl
  rotate_left
  · simp only [Act.put, List.setIfInBounds_toArray, List.set_cons_zero, List.set_cons_succ, i64_w, i32_w]
    rfl
  refine pure_ (i := 17) (N := some 29) (v := ?_) (a' := ?_) #[true, true, true, true, true, false, false, true, true, true, true, true, false, true, true, true, true, true, false, false] rfl rfl (by kernel_rfl) (fun _ _ _ h => h) (Or.inl ⟨by rfl, ?_⟩) ?_ ?_
  rotate_left
  · intro w'
    go_simp
    with_reducible rfl
  rotate_left
  · simp only [Act.put, List.setIfInBounds_toArray, List.set_cons_zero, List.set_cons_succ, i64_w, i32_w]
    rfl
  refine one_ (i := 5) (N := some 17) #[true, true, true, true, true, true, false, true, true, true, true, true, false, true, true, true, true, true, false, false] rfl rfl (by kernel_rfl) (by decide) (fun K hK => ?_)
  refine value_ (w1 := ?_) (v := ?_) (by rfl) rfl ?_ ?_
  rotate_left 2
  · go_simp
    constructor
    · rfl
    · rfl
  have HZ5 := Aside0.mk (zeros_reads W.drew 8 (by decide))
  have HB5 := Aside0.mk (below_alloc (Below.refl W.heap.size W).drew (.cells (madeCells #[.int .u8 0] 8) 5))
  refine hK.out _ _ ⟨(HC.out.below HB5.out).xl, (HC.out.below HB5.out).x0, (HC.out.below HB5.out).x1⟩ (fun hHeld => ?_)
  clear hK K
  refine norm_ (a' := ?_) ?_ ?_
  rotate_left
  · show Act.put _ (some 17) _ = _
    simp only [Act.put, List.setIfInBounds_toArray, List.set_cons_zero, List.set_cons_succ, i64_w, i32_w]
    rfl
  refine one_ (i := 6) (N := some 18) #[true, true, true, true, true, true, true, true, true, true, true, true, false, true, true, true, true, true, false, false] rfl rfl (by kernel_rfl) (by decide) (fun K hK => ?_)
  refine goes_ Tryz.func50 (by kernel_rfl) rfl #[.pointer (some ⟨q, 0, none⟩), .int .i64 (a : Int), .slice (some ⟨W.heap.size, 0, none⟩) 8 8] (by rfl) rfl rfl (by simp only [List.map_toArray, List.map_cons, List.map_nil]; rfl) ?_
  with_reducible refine (mkwrW_calls _ q a (some ⟨W.heap.size, 0, none⟩) 8 8).mono ?_
  rintro e w6 ⟨b1, b2, b3, rfl, hm6, hb6⟩
  refine ⟨_, rfl, ?_⟩
  have HM6 := Aside0.mk hm6
  have HZ6 := Aside0.mk (HZ5.out.below hb6)
  have HB6 := Aside0.mk (bel_step HB5.out hb6)
  clear hm6 hb6
  refine hK.out _ _ ⟨(HC.out.below HB6.out).xl, (HC.out.below HB6.out).x0, (HC.out.below HB6.out).x1⟩ (fun hHeld => ?_)
  clear hK K
  refine norm_ (a' := ?_) ?_ ?_
  rotate_left
  · show Act.put _ (some 18) _ = _
    simp only [Act.put, List.setIfInBounds_toArray, List.set_cons_zero, List.set_cons_succ, i64_w, i32_w]
    rfl
  refine one_ (i := 12) (N := some 24) #[true, true, true, true, true, true, true, true, true, true, true, true, true, true, true, true, true, true, false, false] rfl rfl (by kernel_rfl) (by decide) (fun K hK => ?_)
  refine goes_ Tryz.func52 (by kernel_rfl) rfl #[.pointer (some ⟨q, 0, none⟩), .int .i64 (a : Int), .int .i64 1] (by rfl) rfl rfl (by simp only [List.map_toArray, List.map_cons, List.map_nil]; rfl) ?_
  with_reducible refine (mkflW_calls w6 q a 1).mono ?_
  rintro e w7 ⟨b4, b5, b6, rfl, hm7, hb7⟩
  refine ⟨_, rfl, ?_⟩
  have HM7 := Aside0.mk hm7
  have HZ7 := Aside0.mk (HZ6.out.below hb7)
  have HB7 := Aside0.mk (bel_step HB6.out hb7)
  have HB67 := Aside0.mk hb7
  clear hm7 hb7
  refine hK.out _ _ ⟨(HC.out.below HB7.out).xl, (HC.out.below HB7.out).x0, (HC.out.below HB7.out).x1⟩ (fun hHeld => ?_)
  clear hK K
  refine norm_ (a' := ?_) ?_ ?_
  rotate_left
  · show Act.put _ (some 24) _ = _
    simp only [Act.put, List.setIfInBounds_toArray, List.set_cons_zero, List.set_cons_succ, i64_w, i32_w]
    rfl
  refine one_ (i := 18) (N := some 30) #[true, true, true, true, true, true, true, true, true, true, true, true, true, true, true, true, true, true, true, false] rfl rfl (by kernel_rfl) (by decide) (fun K hK => ?_)
  refine value_ (w1 := ?_) (v := ?_) (by rfl) rfl ?_ ?_
  rotate_left 2
  · go_simp
    constructor
    · rfl
    · rfl
  refine hK.out _ _ ⟨(HC.out.below (below_alloc HB7.out _)).xl, (HC.out.below (below_alloc HB7.out _)).x0, (HC.out.below (below_alloc HB7.out _)).x1⟩ (fun hHeld => ?_)
  clear hK K
  refine norm_ (a' := ?_) ?_ ?_
  rotate_left
  · show Act.put _ (some 30) _ = _
    simp only [Act.put, List.setIfInBounds_toArray, List.set_cons_zero, List.set_cons_succ, i64_w, i32_w]
    rfl
  refine pure_ (i := 19) (N := some 6) (v := ?_) (a' := ?_) #[true, true, true, true, true, true, true, true, true, true, true, true, true, true, true, true, true, true, true, true] rfl rfl (by kernel_rfl) (fun _ _ _ h => h) (Or.inl ⟨by rfl, ?_⟩) ?_ ?_
  rotate_left
  · intro w'
    go_simp
    with_reducible rfl
  rotate_left
  · simp only [Act.put, List.setIfInBounds_toArray, List.set_cons_zero, List.set_cons_succ, i64_w, i32_w]
    rfl
  refine done_ (by kernel_rfl) ?_
  have HBM := Aside0.mk hbl
  have hbig : b.length ≤ 65536 := by omega
  clear hbl hss
  go_wp2_with fail
  go_loopw [6, 7] (fun v i wr => ∃ (j : Nat) (xs : List StepW), j ≤ m ∧ i = .int .i64 (8 * (j : Int)) ∧ Aside0 (HasW W wr n0 W.heap.size q p v xs (stepA a ++ stepB a b j))) (fun _ i _ => (8 * m - intOf i).toNat)
  case atStart =>
    refine ⟨0, [.wr b1 b2 b3, .fl b4 b5 b6, .fe p], Nat.zero_le _, rfl, ⟨?_⟩⟩
    have z6 : W.heap.size ≤ w6.heap.size := HB6.out.size
    have hall : AllW w7 (fun b => n0 ≤ b) q p [.wr b1 b2 b3, .fl b4 b5 b6, .fe p] (stepA a) :=
      ⟨isW_wr HM6.out HB67.out (fun b hb => by simp at hb; omega) hn0 (by omega) rfl HZ7.out, isW_fl HM7.out (Below.refl _ _) (fun b hb => by omega) (by omega) (by decide), rfl, trivial⟩
    have hT : AllW w7 (TW n0 (.slice (some ⟨w7.heap.size, 0, none⟩) 3 3)) q p [.wr b1 b2 b3, .fl b4 b5 b6, .fe p] (stepA a) := hall.mono (fun b hb h => ⟨h, fun e => by simp [Value.ownBlock] at e; omega⟩)
    exact ⟨litW_row (xs := [.wr b1 b2 b3, .fl b4 b5 b6, .fe p]) HB7.out.size (by simp), by rw [show stepB a b 0 = [] from rfl, List.append_nil]; exact hT.move (S := fun _ => False) (Fr.of_below (below_alloc (Below.refl _ _) _) _) (fun _ _ h => h), below_alloc HB7.out _⟩
  case round =>
    obtain ⟨j, xs, hj, rfl, HR⟩ := hrel
    have HCR := Aside0.mk (HC.out.below HR.out.bel)
    by_cases hlt : j < m
    · have z1 : decide (8 * (j : Int) < (b.length : Int)) = true := decide_eq_true (by have := HBM.out; omega)
      have e1 : IntKind.i64.wrap ((a : Int) + 1) = a + 1 := IntWalk.i64_in _ (by omega)
      have e2 : 8 * (j : Int) / 8 = j := by omega
      have e3 : IntKind.i64.wrap ((a : Int) + 1 + j) = (a : Int) + 1 + j := IntWalk.i64_in _ (by omega)
      have HE3 := Aside0.mk (show (a : Int) + 1 + j = ((a + 1 + j : Nat) : Int) by omega)
      have e4 : IntKind.i64.wrap (8 * (j : Int) + 8) = 8 * j + 8 := IntWalk.i64_in _ (by omega)
      have e5 : IntKind.i64.wrap (j : Int) = j := IntWalk.i64_in _ (by omega)
      have hmid := mid_gen gb cb b.length (8 * j) (8 * (j : Int)) (8 * (j : Int) + 8) (by omega) (by omega) (by have := HBM.out; omega) HCR.out.xc
      have r0 := HCR.out.xl
      have r1 := HCR.out.x1
      have r2 := HCR.out.xb
      have HRD := Aside0.mk (HR.out.move (Below.refl wr.heap.size wr).drew HR.out.bel.size)
      go_wp2_with fail
      have HLX := Aside0.mk (show xs.length = 3 + j by have := HR.out.all.len; rw [this, List.length_append, stepB_length]; rfl)
      refine start_ (n := 19) (S := fun w' => w'.cell? ⟨bl, 0, none⟩ = some (.pointer (some ⟨q, 0, none⟩)) ∧ w'.cell? ⟨q, 1, none⟩ = some (.int .i64 a) ∧ w'.cell? ⟨bb, 0, none⟩ = some (.slice (some ⟨gb, 0, none⟩) b.length cb)) (ds := [17]) #[false, false, false, false, false, false, false, false, false, false, false, false, false, false, false, false, false, false, false] (by kernel_rfl) rfl rfl ⟨r0, r1, r2⟩ (fun hHeld => ?_)
      refine pure_ (i := 0) (N := some 37) (v := ?_) (a' := ?_) #[true, false, false, false, false, false, false, false, false, false, false, false, false, false, false, false, false, false, false] rfl rfl (by kernel_rfl) (fun _ _ _ h => h) (Or.inl ⟨by rfl, ?_⟩) ?_ ?_
      rotate_left
      · intro w'
        go_simp
        with_reducible rfl
      rotate_left
      · simp only [Act.put, List.setIfInBounds_toArray, List.set_cons_zero, List.set_cons_succ, i64_w, i32_w]
        rfl
      refine pure_ (i := 7) (N := some 44) (v := ?_) (a' := ?_) #[true, false, false, false, false, false, false, true, false, false, false, false, false, false, false, false, false, false, false] rfl rfl (by kernel_rfl) (fun _ _ _ h => h) (Or.inl ⟨by rfl, ?_⟩) ?_ ?_
      rotate_left
      · intro w'
        go_simp
        with_reducible rfl
      rotate_left
      · simp only [Act.put, List.setIfInBounds_toArray, List.set_cons_zero, List.set_cons_succ, i64_w, i32_w]
        rfl
      refine pure_ (i := 8) (N := some 45) (v := ?_) (a' := ?_) #[true, false, false, false, false, false, false, true, true, false, false, false, false, false, false, false, false, false, false] rfl rfl (by kernel_rfl) (fun _ _ _ h => h) (Or.inl ⟨by rfl, ?_⟩) ?_ ?_
      rotate_left
      · intro w'
        go_simp
        with_reducible rfl
      rotate_left
      · simp only [Act.put, List.setIfInBounds_toArray, List.set_cons_zero, List.set_cons_succ, i64_w, i32_w]
        rfl
      refine pure_ (i := 11) (N := some 48) (v := ?_) (a' := ?_) #[true, false, false, false, false, false, false, true, true, false, false, true, false, false, false, false, false, false, false] rfl rfl (by kernel_rfl) (fun _ _ _ h => h) (Or.inl ⟨by rfl, ?_⟩) ?_ ?_
      rotate_left
      · intro w'
        go_simp
        with_reducible rfl
      rotate_left
      · simp only [Act.put, List.setIfInBounds_toArray, List.set_cons_zero, List.set_cons_succ, i64_w, i32_w]
        rfl
      refine pure_ (i := 12) (N := some 49) (v := ?_) (a' := ?_) #[true, false, false, false, false, false, false, true, true, false, false, true, true, false, false, false, false, false, false] rfl rfl (by kernel_rfl) (fun _ _ _ h => h) (Or.inl ⟨by rfl, ?_⟩) ?_ ?_
      rotate_left
      · intro w'
        go_simp
        with_reducible rfl
      rotate_left
      · simp only [Act.put, List.setIfInBounds_toArray, List.set_cons_zero, List.set_cons_succ, i64_w, i32_w]
        rfl
      refine pure_ (i := 13) (N := some 50) (v := ?_) (a' := ?_) #[true, false, false, false, false, false, false, true, true, false, false, true, true, true, false, false, false, false, false] rfl rfl (by kernel_rfl) (fun _ _ _ h => h) (Or.inl ⟨by rfl, ?_⟩) ?_ ?_
      rotate_left
      · intro w'
        go_simp
        with_reducible rfl
      rotate_left
      · simp only [Act.put, List.setIfInBounds_toArray, List.set_cons_zero, List.set_cons_succ, i64_w, i32_w]
        rfl
      refine take_ (i := 1) (N := some 38) (v := ?_) (a' := ?_) #[true, true, false, false, false, false, false, true, true, false, false, true, true, true, false, false, false, false, false] rfl rfl (by kernel_rfl) (fun _ _ _ h => h) (Or.inl ⟨by rfl, ?_⟩) hHeld ?_ ?_
      rotate_left
      · rintro w' ⟨s0, s1, s2⟩
        go_simp
        with_reducible rfl
      rotate_left
      · simp only [Act.put, List.setIfInBounds_toArray, List.set_cons_zero, List.set_cons_succ, i64_w, i32_w]
        rfl
      refine take_ (i := 2) (N := some 39) (v := ?_) (a' := ?_) #[true, true, true, false, false, false, false, true, true, false, false, true, true, true, false, false, false, false, false] rfl rfl (by kernel_rfl) (fun _ _ _ h => h) (Or.inl ⟨by rfl, ?_⟩) hHeld ?_ ?_
      rotate_left
      · rintro w' ⟨s0, s1, s2⟩
        go_simp
        with_reducible rfl
      rotate_left
      · simp only [Act.put, List.setIfInBounds_toArray, List.set_cons_zero, List.set_cons_succ, i64_w, i32_w]
        rfl
      refine pure_ (i := 3) (N := some 40) (v := ?_) (a' := ?_) #[true, true, true, true, false, false, false, true, true, false, false, true, true, true, false, false, false, false, false] rfl rfl (by kernel_rfl) (fun _ _ _ h => h) (Or.inl ⟨by rfl, ?_⟩) ?_ ?_
      rotate_left
      · intro w'
        go_simp
        with_reducible rfl
      rotate_left
      · simp only [Act.put, List.setIfInBounds_toArray, List.set_cons_zero, List.set_cons_succ, i64_w, i32_w]
        rfl
      refine pure_ (i := 4) (N := some 41) (v := ?_) (a' := ?_) #[true, true, true, true, true, false, false, true, true, false, false, true, true, true, false, false, false, false, false] rfl rfl (by kernel_rfl) (fun _ _ _ h => h) (Or.inl ⟨by rfl, ?_⟩) ?_ ?_
      rotate_left
      · intro w'
        go_simp
        with_reducible rfl
      rotate_left
      · simp only [Act.put, List.setIfInBounds_toArray, List.set_cons_zero, List.set_cons_succ, i64_w, i32_w]
        rfl
      refine take_ (i := 5) (N := some 42) (v := ?_) (a' := ?_) #[true, true, true, true, true, true, false, true, true, false, false, true, true, true, false, false, false, false, false] rfl rfl (by kernel_rfl) (fun _ _ _ h => h) (Or.inl ⟨by rfl, ?_⟩) hHeld ?_ ?_
      rotate_left
      · rintro w' ⟨s0, s1, s2⟩
        go_simp
        with_reducible rfl
      rotate_left
      · simp only [Act.put, List.setIfInBounds_toArray, List.set_cons_zero, List.set_cons_succ, i64_w, i32_w]
        rfl
      refine pure_ (i := 6) (N := some 43) (v := ?_) (a' := ?_) #[true, true, true, true, true, true, true, true, true, false, false, true, true, true, false, false, false, false, false] rfl rfl (by kernel_rfl) (fun _ _ _ h => h) (Or.inl ⟨by rfl, ?_⟩) ?_ ?_
      rotate_left
      · intro w'
        go_simp
        with_reducible rfl
      rotate_left
      · simp only [Act.put, List.setIfInBounds_toArray, List.set_cons_zero, List.set_cons_succ, i64_w, i32_w]
        rfl
      refine pure_ (i := 9) (N := some 46) (v := ?_) (a' := ?_) #[true, true, true, true, true, true, true, true, true, true, false, true, true, true, false, false, false, false, false] rfl rfl (by kernel_rfl) (fun _ _ _ h => h) (Or.inl ⟨by rfl, ?_⟩) ?_ ?_
      rotate_left
      · intro w'
        go_simp
        with_reducible rfl
      rotate_left
      · simp only [Act.put, List.setIfInBounds_toArray, List.set_cons_zero, List.set_cons_succ, i64_w, i32_w]
        rfl
      refine take_ (i := 10) (N := some 47) (v := ?_) (a' := ?_) #[true, true, true, true, true, true, true, true, true, true, true, true, true, true, false, false, false, false, false] rfl rfl (by kernel_rfl) (fun _ _ _ h => h) (Or.inl ⟨by rfl, ?_⟩) hHeld ?_ ?_
      rotate_left
      · rintro w' ⟨s0, s1, s2⟩
        go_simp
        with_reducible rfl
      rotate_left
      · simp only [Act.put, List.setIfInBounds_toArray, List.set_cons_zero, List.set_cons_succ, i64_w, i32_w]
        rfl
      refine pure_ (i := 14) (N := some 51) (v := ?_) (a' := ?_) #[true, true, true, true, true, true, true, true, true, true, true, true, true, true, true, false, false, false, false] rfl rfl (by kernel_rfl) (fun _ _ _ h => h) (Or.inl ⟨by rfl, ?_⟩) ?_ ?_
      rotate_left
      · intro w'
        go_simp
        with_reducible rfl
      rotate_left
      · simp only [Act.put, List.setIfInBounds_toArray, List.set_cons_zero, List.set_cons_succ, i64_w, i32_w]
        rfl
      refine one_ (i := 15) (N := some 52) #[true, true, true, true, true, true, true, true, true, true, true, true, true, true, true, true, false, false, false] rfl rfl (by kernel_rfl) (by decide) (fun K hK => ?_)
      refine goes_ Tryz.func50 (by kernel_rfl) rfl #[.pointer (some ⟨q, 0, none⟩), .int .i64 ((a : Int) + 1 + j), .slice (some ⟨gb, 8 * j, none⟩) 8 (cb - 8 * j)] (by rfl) rfl rfl (by simp only [List.map_toArray, List.map_cons, List.map_nil]; rfl) ?_
      with_reducible refine (mkwrW_calls wr.drew q ((a : Int) + 1 + j) (some ⟨gb, 8 * j, none⟩) 8 (cb - 8 * j)).mono ?_
      rintro e v6 ⟨d1, d2, d3, rfl, hm, hb⟩
      refine ⟨_, rfl, ?_⟩
      rw [HE3.out] at hm
      have HM1 := Aside0.mk hm
      have HV6 := Aside0.mk hb
      have HVB := Aside0.mk (bel_step (Below.refl wr.heap.size wr).drew hb)
      clear hm hb
      refine hK.out _ _ ⟨(HCR.out.below HVB.out).xl, (HCR.out.below HVB.out).x1, (HCR.out.below HVB.out).xb⟩ (fun hHeld => ?_)
      clear hK K
      refine norm_ (a' := ?_) ?_ ?_
      rotate_left
      · show Act.put _ (some 52) _ = _
        simp only [Act.put, List.setIfInBounds_toArray, List.set_cons_zero, List.set_cons_succ, i64_w, i32_w]
        rfl
      refine one_ (i := 16) (N := some 53) #[true, true, true, true, true, true, true, true, true, true, true, true, true, true, true, true, true, false, false] rfl rfl (by kernel_rfl) (by decide) (fun K hK => ?_)
      refine value_ (w1 := ?_) (v := ?_) (by rfl) rfl ?_ ?_
      rotate_left 2
      · go_simp
        constructor
        · rfl
        · rfl
      refine hK.out _ _ ⟨(HCR.out.below (below_alloc HVB.out _)).xl, (HCR.out.below (below_alloc HVB.out _)).x1, (HCR.out.below (below_alloc HVB.out _)).xb⟩ (fun hHeld => ?_)
      clear hK K
      refine norm_ (a' := ?_) ?_ ?_
      rotate_left
      · show Act.put _ (some 53) _ = _
        simp only [Act.put, List.setIfInBounds_toArray, List.set_cons_zero, List.set_cons_succ, i64_w, i32_w]
        rfl
      refine last_ (i := 17) (N := some 54) #[true, true, true, true, true, true, true, true, true, true, true, true, true, true, true, true, true, true, false] rfl rfl (by kernel_rfl) (by decide) (fun K hK => ?_)
      refine appW_step (by rfl) (.tmp 37) (.tmp 53) rfl n0 W.heap.size q p u6 xs [.wr d1 d2 d3] (stepA a ++ stepB a b j) [.wr (8 * (a + 1 + j)) (cut b (8 * j) 8)] (some ⟨v6.heap.size, 0, none⟩) 1 1 rfl rfl rfl (w0 := W) ?hA ?hB ?hC ?hD ?hE ?_
      case hA => exact HRD.out.move (bel_step HV6.out (below_alloc (Below.refl _ _) _)) (Nat.le_trans HR.out.bel.size (by simp))
      case hB => exact litW_steps (xs := [.wr d1 d2 d3]) (by simp)
      case hC => exact ⟨isW_wr HM1.out (below_alloc (Below.refl _ _) _) (fun b hb => TW.new HR.out (Nat.le_trans hn0 HR.out.bel.size) hb) (TW.old HR.out hng.1 HGB.out) (by omega) (cut_length (by have := HBM.out; omega)) (reads_mid (HCR.out.below (below_alloc HVB.out _)).xrb (8 * j) (by have := HBM.out; omega)), trivial⟩
      case hD => exact Nat.le_trans HR.out.bel.size (below_alloc HVB.out _).size
      case hE => have := HLX.out; simp; omega
      intro v7 w8 hw8
      have HW8 := Aside0.mk hw8
      clear hw8
      refine hK.out _ _ ?_
      clear hK K
      refine norm_ (a' := ?_) ?_ ?_
      rotate_left
      · show Act.put _ (some 54) _ = _
        simp only [Act.put, List.setIfInBounds_toArray, List.set_cons_zero, List.set_cons_succ, i64_w, i32_w]
        rfl
      refine pure_ (i := 18) (N := some 6) (v := ?_) (a' := ?_) #[true, true, true, true, true, true, true, true, true, true, true, true, true, true, true, true, true, true, true] rfl rfl (by kernel_rfl) (fun _ _ _ h => h) (Or.inl ⟨by rfl, ?_⟩) ?_ ?_
      rotate_left
      · intro w'
        go_simp
        with_reducible rfl
      rotate_left
      · simp only [Act.put, List.setIfInBounds_toArray, List.set_cons_zero, List.set_cons_succ, i64_w, i32_w]
        rfl
      refine done_ (by kernel_rfl) ?_
      go_wp2_with fail
      go_roundw
      case rel => exact ⟨j + 1, xs ++ [.wr d1 d2 d3], by omega, by go_num, ⟨by rw [stepB_succ, ← List.append_assoc]; exact HW8.out⟩⟩
      case measure => simp [intOf]; omega
    · obtain rfl : j = m := by omega
      have z1 : decide (8 * (j : Int) < (b.length : Int)) = false := decide_eq_false (by have := HBM.out; omega)
      have e1 : IntKind.i64.wrap ((a : Int) + 1) = (a : Int) + 1 := IntWalk.i64_in _ (by omega)
      have HE1 := Aside0.mk (show (a : Int) + 1 = ((a + 1 : Nat) : Int) by omega)
      have e2 : (b.length : Int) / 8 = j := by have := HBM.out; omega
      have e3 : IntKind.i64.wrap (j : Int) = j := IntWalk.i64_in _ (by omega)
      have r0 := HCR.out.xl
      have r1 := HCR.out.x1
      have r2 := HCR.out.xb
      have r3 := HCR.out.x0
      have r4 := HCR.out.xh
      have HRD := Aside0.mk (HR.out.move (Below.refl wr.heap.size wr).drew HR.out.bel.size)
      have HLX := Aside0.mk (show xs.length = 3 + j by have := HR.out.all.len; rw [this, List.length_append, stepB_length]; rfl)
      go_wp2_with fail
      refine start_ (n := 37) (S := fun w' => w'.cell? ⟨bl, 0, none⟩ = some (.pointer (some ⟨q, 0, none⟩)) ∧ w'.cell? ⟨q, 1, none⟩ = some (.int .i64 a) ∧ w'.cell? ⟨bb, 0, none⟩ = some (.slice (some ⟨gb, 0, none⟩) b.length cb) ∧ w'.cell? ⟨q, 0, none⟩ = some (.pointer (some ⟨p, 0, none⟩)) ∧ w'.cell? ⟨bh, 0, none⟩ = some (.slice (some ⟨gh, 0, none⟩) 8 ch)) (ds := [35]) #[false, false, false, false, false, false, false, false, false, false, false, false, false, false, false, false, false, false, false, false, false, false, false, false, false, false, false, false, false, false, false, false, false, false, false, false, false] (by kernel_rfl) rfl rfl ⟨r0, r1, r2, r3, r4⟩ (fun hHeld => ?_)
      refine pure_ (i := 0) (N := some 55) (v := ?_) (a' := ?_) #[true, false, false, false, false, false, false, false, false, false, false, false, false, false, false, false, false, false, false, false, false, false, false, false, false, false, false, false, false, false, false, false, false, false, false, false, false] rfl rfl (by kernel_rfl) (fun _ _ _ h => h) (Or.inl ⟨by rfl, ?_⟩) ?_ ?_
      rotate_left
      · intro w'
        go_simp
        with_reducible rfl
      rotate_left
      · simp only [Act.put, List.setIfInBounds_toArray, List.set_cons_zero, List.set_cons_succ, i64_w, i32_w]
        rfl
      refine take_ (i := 1) (N := some 56) (v := ?_) (a' := ?_) #[true, true, false, false, false, false, false, false, false, false, false, false, false, false, false, false, false, false, false, false, false, false, false, false, false, false, false, false, false, false, false, false, false, false, false, false, false] rfl rfl (by kernel_rfl) (fun _ _ _ h => h) (Or.inl ⟨by rfl, ?_⟩) hHeld ?_ ?_
      rotate_left
      · rintro w' ⟨s0, s1, s2, s3, s4⟩
        go_simp
        with_reducible rfl
      rotate_left
      · simp only [Act.put, List.setIfInBounds_toArray, List.set_cons_zero, List.set_cons_succ, i64_w, i32_w]
        rfl
      refine take_ (i := 2) (N := some 57) (v := ?_) (a' := ?_) #[true, true, true, false, false, false, false, false, false, false, false, false, false, false, false, false, false, false, false, false, false, false, false, false, false, false, false, false, false, false, false, false, false, false, false, false, false] rfl rfl (by kernel_rfl) (fun _ _ _ h => h) (Or.inl ⟨by rfl, ?_⟩) hHeld ?_ ?_
      rotate_left
      · rintro w' ⟨s0, s1, s2, s3, s4⟩
        go_simp
        with_reducible rfl
      rotate_left
      · simp only [Act.put, List.setIfInBounds_toArray, List.set_cons_zero, List.set_cons_succ, i64_w, i32_w]
        rfl
      refine pure_ (i := 3) (N := some 58) (v := ?_) (a' := ?_) #[true, true, true, true, false, false, false, false, false, false, false, false, false, false, false, false, false, false, false, false, false, false, false, false, false, false, false, false, false, false, false, false, false, false, false, false, false] rfl rfl (by kernel_rfl) (fun _ _ _ h => h) (Or.inl ⟨by rfl, ?_⟩) ?_ ?_
      rotate_left
      · intro w'
        go_simp
        with_reducible rfl
      rotate_left
      · simp only [Act.put, List.setIfInBounds_toArray, List.set_cons_zero, List.set_cons_succ, i64_w, i32_w]
        rfl
      refine pure_ (i := 4) (N := some 59) (v := ?_) (a' := ?_) #[true, true, true, true, true, false, false, false, false, false, false, false, false, false, false, false, false, false, false, false, false, false, false, false, false, false, false, false, false, false, false, false, false, false, false, false, false] rfl rfl (by kernel_rfl) (fun _ _ _ h => h) (Or.inl ⟨by rfl, ?_⟩) ?_ ?_
      rotate_left
      · intro w'
        go_simp
        with_reducible rfl
      rotate_left
      · simp only [Act.put, List.setIfInBounds_toArray, List.set_cons_zero, List.set_cons_succ, i64_w, i32_w]
        rfl
      refine take_ (i := 5) (N := some 60) (v := ?_) (a' := ?_) #[true, true, true, true, true, true, false, false, false, false, false, false, false, false, false, false, false, false, false, false, false, false, false, false, false, false, false, false, false, false, false, false, false, false, false, false, false] rfl rfl (by kernel_rfl) (fun _ _ _ h => h) (Or.inl ⟨by rfl, ?_⟩) hHeld ?_ ?_
      rotate_left
      · rintro w' ⟨s0, s1, s2, s3, s4⟩
        go_simp
        with_reducible rfl
      rotate_left
      · simp only [Act.put, List.setIfInBounds_toArray, List.set_cons_zero, List.set_cons_succ, i64_w, i32_w]
        rfl
      refine pure_ (i := 6) (N := some 61) (v := ?_) (a' := ?_) #[true, true, true, true, true, true, true, false, false, false, false, false, false, false, false, false, false, false, false, false, false, false, false, false, false, false, false, false, false, false, false, false, false, false, false, false, false] rfl rfl (by kernel_rfl) (fun _ _ _ h => h) (Or.inl ⟨by rfl, ?_⟩) ?_ ?_
      rotate_left
      · intro w'
        go_simp
        with_reducible rfl
      rotate_left
      · simp only [Act.put, List.setIfInBounds_toArray, List.set_cons_zero, List.set_cons_succ, i64_w, i32_w]
        rfl
      refine take_ (i := 7) (N := some 62) (v := ?_) (a' := ?_) #[true, true, true, true, true, true, true, true, false, false, false, false, false, false, false, false, false, false, false, false, false, false, false, false, false, false, false, false, false, false, false, false, false, false, false, false, false] rfl rfl (by kernel_rfl) (fun _ _ _ h => h) (Or.inl ⟨by rfl, ?_⟩) hHeld ?_ ?_
      rotate_left
      · rintro w' ⟨s0, s1, s2, s3, s4⟩
        go_simp
        with_reducible rfl
      rotate_left
      · simp only [Act.put, List.setIfInBounds_toArray, List.set_cons_zero, List.set_cons_succ, i64_w, i32_w]
        rfl
      refine pure_ (i := 8) (N := some 63) (v := ?_) (a' := ?_) #[true, true, true, true, true, true, true, true, true, false, false, false, false, false, false, false, false, false, false, false, false, false, false, false, false, false, false, false, false, false, false, false, false, false, false, false, false] rfl rfl (by kernel_rfl) (fun _ _ _ h => h) (Or.inl ⟨by rfl, ?_⟩) ?_ ?_
      rotate_left
      · intro w'
        go_simp
        with_reducible rfl
      rotate_left
      · simp only [Act.put, List.setIfInBounds_toArray, List.set_cons_zero, List.set_cons_succ, i64_w, i32_w]
        rfl
      refine pure_ (i := 9) (N := some 64) (v := ?_) (a' := ?_) #[true, true, true, true, true, true, true, true, true, true, false, false, false, false, false, false, false, false, false, false, false, false, false, false, false, false, false, false, false, false, false, false, false, false, false, false, false] rfl rfl (by kernel_rfl) (fun _ _ _ h => h) (Or.inl ⟨by rfl, ?_⟩) ?_ ?_
      rotate_left
      · intro w'
        go_simp
        with_reducible rfl
      rotate_left
      · simp only [Act.put, List.setIfInBounds_toArray, List.set_cons_zero, List.set_cons_succ, i64_w, i32_w]
        rfl
      refine take_ (i := 11) (N := some 66) (v := ?_) (a' := ?_) #[true, true, true, true, true, true, true, true, true, true, false, true, false, false, false, false, false, false, false, false, false, false, false, false, false, false, false, false, false, false, false, false, false, false, false, false, false] rfl rfl (by kernel_rfl) (fun _ _ _ h => h) (Or.inl ⟨by rfl, ?_⟩) hHeld ?_ ?_
      rotate_left
      · rintro w' ⟨s0, s1, s2, s3, s4⟩
        go_simp
        with_reducible rfl
      rotate_left
      · simp only [Act.put, List.setIfInBounds_toArray, List.set_cons_zero, List.set_cons_succ, i64_w, i32_w]
        rfl
      refine pure_ (i := 12) (N := some 67) (v := ?_) (a' := ?_) #[true, true, true, true, true, true, true, true, true, true, false, true, true, false, false, false, false, false, false, false, false, false, false, false, false, false, false, false, false, false, false, false, false, false, false, false, false] rfl rfl (by kernel_rfl) (fun _ _ _ h => h) (Or.inl ⟨by rfl, ?_⟩) ?_ ?_
      rotate_left
      · intro w'
        go_simp
        with_reducible rfl
      rotate_left
      · simp only [Act.put, List.setIfInBounds_toArray, List.set_cons_zero, List.set_cons_succ, i64_w, i32_w]
        rfl
      refine pure_ (i := 13) (N := some 68) (v := ?_) (a' := ?_) #[true, true, true, true, true, true, true, true, true, true, false, true, true, true, false, false, false, false, false, false, false, false, false, false, false, false, false, false, false, false, false, false, false, false, false, false, false] rfl rfl (by kernel_rfl) (fun _ _ _ h => h) (Or.inl ⟨by rfl, ?_⟩) ?_ ?_
      rotate_left
      · intro w'
        go_simp
        with_reducible rfl
      rotate_left
      · simp only [Act.put, List.setIfInBounds_toArray, List.set_cons_zero, List.set_cons_succ, i64_w, i32_w]
        rfl
      refine take_ (i := 14) (N := some 69) (v := ?_) (a' := ?_) #[true, true, true, true, true, true, true, true, true, true, false, true, true, true, true, false, false, false, false, false, false, false, false, false, false, false, false, false, false, false, false, false, false, false, false, false, false] rfl rfl (by kernel_rfl) (fun _ _ _ h => h) (Or.inl ⟨by rfl, ?_⟩) hHeld ?_ ?_
      rotate_left
      · rintro w' ⟨s0, s1, s2, s3, s4⟩
        go_simp
        with_reducible rfl
      rotate_left
      · simp only [Act.put, List.setIfInBounds_toArray, List.set_cons_zero, List.set_cons_succ, i64_w, i32_w]
        rfl
      refine pure_ (i := 15) (N := some 70) (v := ?_) (a' := ?_) #[true, true, true, true, true, true, true, true, true, true, false, true, true, true, true, true, false, false, false, false, false, false, false, false, false, false, false, false, false, false, false, false, false, false, false, false, false] rfl rfl (by kernel_rfl) (fun _ _ _ h => h) (Or.inl ⟨by rfl, ?_⟩) ?_ ?_
      rotate_left
      · intro w'
        go_simp
        with_reducible rfl
      rotate_left
      · simp only [Act.put, List.setIfInBounds_toArray, List.set_cons_zero, List.set_cons_succ, i64_w, i32_w]
        rfl
      refine take_ (i := 16) (N := some 71) (v := ?_) (a' := ?_) #[true, true, true, true, true, true, true, true, true, true, false, true, true, true, true, true, true, false, false, false, false, false, false, false, false, false, false, false, false, false, false, false, false, false, false, false, false] rfl rfl (by kernel_rfl) (fun _ _ _ h => h) (Or.inl ⟨by rfl, ?_⟩) hHeld ?_ ?_
      rotate_left
      · rintro w' ⟨s0, s1, s2, s3, s4⟩
        go_simp
        with_reducible rfl
      rotate_left
      · simp only [Act.put, List.setIfInBounds_toArray, List.set_cons_zero, List.set_cons_succ, i64_w, i32_w]
        rfl
      refine take_ (i := 17) (N := some 72) (v := ?_) (a' := ?_) #[true, true, true, true, true, true, true, true, true, true, false, true, true, true, true, true, true, true, false, false, false, false, false, false, false, false, false, false, false, false, false, false, false, false, false, false, false] rfl rfl (by kernel_rfl) (fun _ _ _ h => h) (Or.inl ⟨by rfl, ?_⟩) hHeld ?_ ?_
      rotate_left
      · rintro w' ⟨s0, s1, s2, s3, s4⟩
        go_simp
        with_reducible rfl
      rotate_left
      · simp only [Act.put, List.setIfInBounds_toArray, List.set_cons_zero, List.set_cons_succ, i64_w, i32_w]
        rfl
      refine pure_ (i := 18) (N := some 73) (v := ?_) (a' := ?_) #[true, true, true, true, true, true, true, true, true, true, false, true, true, true, true, true, true, true, true, false, false, false, false, false, false, false, false, false, false, false, false, false, false, false, false, false, false] rfl rfl (by kernel_rfl) (fun _ _ _ h => h) (Or.inl ⟨by rfl, ?_⟩) ?_ ?_
      rotate_left
      · intro w'
        go_simp
        with_reducible rfl
      rotate_left
      · simp only [Act.put, List.setIfInBounds_toArray, List.set_cons_zero, List.set_cons_succ, i64_w, i32_w]
        rfl
      refine pure_ (i := 19) (N := some 74) (v := ?_) (a' := ?_) #[true, true, true, true, true, true, true, true, true, true, false, true, true, true, true, true, true, true, true, true, false, false, false, false, false, false, false, false, false, false, false, false, false, false, false, false, false] rfl rfl (by kernel_rfl) (fun _ _ _ h => h) (Or.inl ⟨by rfl, ?_⟩) ?_ ?_
      rotate_left
      · intro w'
        go_simp
        with_reducible rfl
      rotate_left
      · simp only [Act.put, List.setIfInBounds_toArray, List.set_cons_zero, List.set_cons_succ, i64_w, i32_w]
        rfl
      refine take_ (i := 20) (N := some 75) (v := ?_) (a' := ?_) #[true, true, true, true, true, true, true, true, true, true, false, true, true, true, true, true, true, true, true, true, true, false, false, false, false, false, false, false, false, false, false, false, false, false, false, false, false] rfl rfl (by kernel_rfl) (fun _ _ _ h => h) (Or.inl ⟨by rfl, ?_⟩) hHeld ?_ ?_
      rotate_left
      · rintro w' ⟨s0, s1, s2, s3, s4⟩
        go_simp
        with_reducible rfl
      rotate_left
      · simp only [Act.put, List.setIfInBounds_toArray, List.set_cons_zero, List.set_cons_succ, i64_w, i32_w]
        rfl
      refine take_ (i := 21) (N := some 76) (v := ?_) (a' := ?_) #[true, true, true, true, true, true, true, true, true, true, false, true, true, true, true, true, true, true, true, true, true, true, false, false, false, false, false, false, false, false, false, false, false, false, false, false, false] rfl rfl (by kernel_rfl) (fun _ _ _ h => h) (Or.inl ⟨by rfl, ?_⟩) hHeld ?_ ?_
      rotate_left
      · rintro w' ⟨s0, s1, s2, s3, s4⟩
        go_simp
        with_reducible rfl
      rotate_left
      · simp only [Act.put, List.setIfInBounds_toArray, List.set_cons_zero, List.set_cons_succ, i64_w, i32_w]
        rfl
      refine take_ (i := 23) (N := some 78) (v := ?_) (a' := ?_) #[true, true, true, true, true, true, true, true, true, true, false, true, true, true, true, true, true, true, true, true, true, true, false, true, false, false, false, false, false, false, false, false, false, false, false, false, false] rfl rfl (by kernel_rfl) (fun _ _ _ h => h) (Or.inl ⟨by rfl, ?_⟩) hHeld ?_ ?_
      rotate_left
      · rintro w' ⟨s0, s1, s2, s3, s4⟩
        go_simp
        with_reducible rfl
      rotate_left
      · simp only [Act.put, List.setIfInBounds_toArray, List.set_cons_zero, List.set_cons_succ, i64_w, i32_w]
        rfl
      refine take_ (i := 24) (N := some 79) (v := ?_) (a' := ?_) #[true, true, true, true, true, true, true, true, true, true, false, true, true, true, true, true, true, true, true, true, true, true, false, true, true, false, false, false, false, false, false, false, false, false, false, false, false] rfl rfl (by kernel_rfl) (fun _ _ _ h => h) (Or.inl ⟨by rfl, ?_⟩) hHeld ?_ ?_
      rotate_left
      · rintro w' ⟨s0, s1, s2, s3, s4⟩
        go_simp
        with_reducible rfl
      rotate_left
      · simp only [Act.put, List.setIfInBounds_toArray, List.set_cons_zero, List.set_cons_succ, i64_w, i32_w]
        rfl
      refine pure_ (i := 25) (N := some 80) (v := ?_) (a' := ?_) #[true, true, true, true, true, true, true, true, true, true, false, true, true, true, true, true, true, true, true, true, true, true, false, true, true, true, false, false, false, false, false, false, false, false, false, false, false] rfl rfl (by kernel_rfl) (fun _ _ _ h => h) (Or.inl ⟨by rfl, ?_⟩) ?_ ?_
      rotate_left
      · intro w'
        go_simp
        with_reducible rfl
      rotate_left
      · simp only [Act.put, List.setIfInBounds_toArray, List.set_cons_zero, List.set_cons_succ, i64_w, i32_w]
        rfl
      refine pure_ (i := 26) (N := some 81) (v := ?_) (a' := ?_) #[true, true, true, true, true, true, true, true, true, true, false, true, true, true, true, true, true, true, true, true, true, true, false, true, true, true, true, false, false, false, false, false, false, false, false, false, false] rfl rfl (by kernel_rfl) (fun _ _ _ h => h) (Or.inl ⟨by rfl, ?_⟩) ?_ ?_
      rotate_left
      · intro w'
        go_simp
        with_reducible rfl
      rotate_left
      · simp only [Act.put, List.setIfInBounds_toArray, List.set_cons_zero, List.set_cons_succ, i64_w, i32_w]
        rfl
      refine take_ (i := 27) (N := some 82) (v := ?_) (a' := ?_) #[true, true, true, true, true, true, true, true, true, true, false, true, true, true, true, true, true, true, true, true, true, true, false, true, true, true, true, true, false, false, false, false, false, false, false, false, false] rfl rfl (by kernel_rfl) (fun _ _ _ h => h) (Or.inl ⟨by rfl, ?_⟩) hHeld ?_ ?_
      rotate_left
      · rintro w' ⟨s0, s1, s2, s3, s4⟩
        go_simp
        with_reducible rfl
      rotate_left
      · simp only [Act.put, List.setIfInBounds_toArray, List.set_cons_zero, List.set_cons_succ, i64_w, i32_w]
        rfl
      refine take_ (i := 29) (N := some 84) (v := ?_) (a' := ?_) #[true, true, true, true, true, true, true, true, true, true, false, true, true, true, true, true, true, true, true, true, true, true, false, true, true, true, true, true, false, true, false, false, false, false, false, false, false] rfl rfl (by kernel_rfl) (fun _ _ _ h => h) (Or.inl ⟨by rfl, ?_⟩) hHeld ?_ ?_
      rotate_left
      · rintro w' ⟨s0, s1, s2, s3, s4⟩
        go_simp
        with_reducible rfl
      rotate_left
      · simp only [Act.put, List.setIfInBounds_toArray, List.set_cons_zero, List.set_cons_succ, i64_w, i32_w]
        rfl
      refine pure_ (i := 30) (N := some 85) (v := ?_) (a' := ?_) #[true, true, true, true, true, true, true, true, true, true, false, true, true, true, true, true, true, true, true, true, true, true, false, true, true, true, true, true, false, true, true, false, false, false, false, false, false] rfl rfl (by kernel_rfl) (fun _ _ _ h => h) (Or.inl ⟨by rfl, ?_⟩) ?_ ?_
      rotate_left
      · intro w'
        go_simp
        with_reducible rfl
      rotate_left
      · simp only [Act.put, List.setIfInBounds_toArray, List.set_cons_zero, List.set_cons_succ, i64_w, i32_w]
        rfl
      refine pure_ (i := 31) (N := some 86) (v := ?_) (a' := ?_) #[true, true, true, true, true, true, true, true, true, true, false, true, true, true, true, true, true, true, true, true, true, true, false, true, true, true, true, true, false, true, true, true, false, false, false, false, false] rfl rfl (by kernel_rfl) (fun _ _ _ h => h) (Or.inl ⟨by rfl, ?_⟩) ?_ ?_
      rotate_left
      · intro w'
        go_simp
        with_reducible rfl
      rotate_left
      · simp only [Act.put, List.setIfInBounds_toArray, List.set_cons_zero, List.set_cons_succ, i64_w, i32_w]
        rfl
      refine take_ (i := 32) (N := some 87) (v := ?_) (a' := ?_) #[true, true, true, true, true, true, true, true, true, true, false, true, true, true, true, true, true, true, true, true, true, true, false, true, true, true, true, true, false, true, true, true, true, false, false, false, false] rfl rfl (by kernel_rfl) (fun _ _ _ h => h) (Or.inl ⟨by rfl, ?_⟩) hHeld ?_ ?_
      rotate_left
      · rintro w' ⟨s0, s1, s2, s3, s4⟩
        go_simp
        with_reducible rfl
      rotate_left
      · simp only [Act.put, List.setIfInBounds_toArray, List.set_cons_zero, List.set_cons_succ, i64_w, i32_w]
        rfl
      refine pure_ (i := 33) (N := some 88) (v := ?_) (a' := ?_) #[true, true, true, true, true, true, true, true, true, true, false, true, true, true, true, true, true, true, true, true, true, true, false, true, true, true, true, true, false, true, true, true, true, true, false, false, false] rfl rfl (by kernel_rfl) (fun _ _ _ h => h) (Or.inl ⟨by rfl, ?_⟩) ?_ ?_
      rotate_left
      · intro w'
        go_simp
        with_reducible rfl
      rotate_left
      · simp only [Act.put, List.setIfInBounds_toArray, List.set_cons_zero, List.set_cons_succ, i64_w, i32_w]
        rfl
      refine one_ (i := 10) (N := some 65) #[true, true, true, true, true, true, true, true, true, true, true, true, true, true, true, true, true, true, true, true, true, true, false, true, true, true, true, true, false, true, true, true, true, true, false, false, false] rfl rfl (by kernel_rfl) (by decide) (fun K hK => ?_)
      refine goes_ Tryz.func52 (by kernel_rfl) rfl #[.pointer (some ⟨q, 0, none⟩), .int .i64 ((a : Int) + 1), .int .i64 (j : Int)] (by rfl) rfl rfl (by simp only [List.map_toArray, List.map_cons, List.map_nil]; rfl) ?_
      with_reducible refine (mkflW_calls wr.drew q ((a : Int) + 1) j).mono ?_
      rintro e v1 ⟨d1, d2, d3, rfl, hm, hb⟩
      refine ⟨_, rfl, ?_⟩
      rw [HE1.out] at hm
      have HM1 := Aside0.mk hm
      have HV1 := Aside0.mk (bel_step (Below.refl wr.heap.size wr).drew hb)
      clear hm hb
      refine hK.out _ _ ⟨(HCR.out.below HV1.out).xl, (HCR.out.below HV1.out).x1, (HCR.out.below HV1.out).xb, (HCR.out.below HV1.out).x0, (HCR.out.below HV1.out).xh⟩ (fun hHeld => ?_)
      clear hK K
      refine norm_ (a' := ?_) ?_ ?_
      rotate_left
      · show Act.put _ (some 65) _ = _
        simp only [Act.put, List.setIfInBounds_toArray, List.set_cons_zero, List.set_cons_succ, i64_w, i32_w]
        rfl
      refine one_ (i := 22) (N := some 77) #[true, true, true, true, true, true, true, true, true, true, true, true, true, true, true, true, true, true, true, true, true, true, true, true, true, true, true, true, false, true, true, true, true, true, false, false, false] rfl rfl (by kernel_rfl) (by decide) (fun K hK => ?_)
      refine goes_ Tryz.func50 (by kernel_rfl) rfl #[.pointer (some ⟨q, 0, none⟩), .int .i64 (a : Int), .slice (some ⟨gh, 0, none⟩) 8 ch] (by rfl) rfl rfl (by simp only [List.map_toArray, List.map_cons, List.map_nil]; rfl) ?_
      with_reducible refine (mkwrW_calls v1 q a (some ⟨gh, 0, none⟩) 8 ch).mono ?_
      rintro e v2 ⟨d4, d5, d6, rfl, hm, hb⟩
      refine ⟨_, rfl, ?_⟩
      have HM2 := Aside0.mk hm
      have HV2 := Aside0.mk (bel_step HV1.out hb)
      have HV12 := Aside0.mk hb
      clear hm hb
      refine hK.out _ _ ⟨(HCR.out.below HV2.out).xl, (HCR.out.below HV2.out).x1, (HCR.out.below HV2.out).xb, (HCR.out.below HV2.out).x0, (HCR.out.below HV2.out).xh⟩ (fun hHeld => ?_)
      clear hK K
      refine norm_ (a' := ?_) ?_ ?_
      rotate_left
      · show Act.put _ (some 77) _ = _
        simp only [Act.put, List.setIfInBounds_toArray, List.set_cons_zero, List.set_cons_succ, i64_w, i32_w]
        rfl
      refine one_ (i := 28) (N := some 83) #[true, true, true, true, true, true, true, true, true, true, true, true, true, true, true, true, true, true, true, true, true, true, true, true, true, true, true, true, true, true, true, true, true, true, false, false, false] rfl rfl (by kernel_rfl) (by decide) (fun K hK => ?_)
      refine goes_ Tryz.func52 (by kernel_rfl) rfl #[.pointer (some ⟨q, 0, none⟩), .int .i64 (a : Int), .int .i64 1] (by rfl) rfl rfl (by simp only [List.map_toArray, List.map_cons, List.map_nil]; rfl) ?_
      with_reducible refine (mkflW_calls v2 q a 1).mono ?_
      rintro e v3 ⟨d7, d8, d9, rfl, hm, hb⟩
      refine ⟨_, rfl, ?_⟩
      have HM3 := Aside0.mk hm
      have HV3 := Aside0.mk (bel_step HV2.out hb)
      have HV23 := Aside0.mk hb
      clear hm hb
      refine hK.out _ _ ⟨(HCR.out.below HV3.out).xl, (HCR.out.below HV3.out).x1, (HCR.out.below HV3.out).xb, (HCR.out.below HV3.out).x0, (HCR.out.below HV3.out).xh⟩ (fun hHeld => ?_)
      clear hK K
      refine norm_ (a' := ?_) ?_ ?_
      rotate_left
      · show Act.put _ (some 83) _ = _
        simp only [Act.put, List.setIfInBounds_toArray, List.set_cons_zero, List.set_cons_succ, i64_w, i32_w]
        rfl
      refine one_ (i := 34) (N := some 89) #[true, true, true, true, true, true, true, true, true, true, true, true, true, true, true, true, true, true, true, true, true, true, true, true, true, true, true, true, true, true, true, true, true, true, true, false, false] rfl rfl (by kernel_rfl) (by decide) (fun K hK => ?_)
      refine value_ (w1 := ?_) (v := ?_) (by rfl) rfl ?_ ?_
      rotate_left 2
      · go_simp
        constructor
        · rfl
        · rfl
      refine hK.out _ _ ⟨(HCR.out.below (below_alloc HV3.out _)).xl, (HCR.out.below (below_alloc HV3.out _)).x1, (HCR.out.below (below_alloc HV3.out _)).xb, (HCR.out.below (below_alloc HV3.out _)).x0, (HCR.out.below (below_alloc HV3.out _)).xh⟩ (fun hHeld => ?_)
      clear hK K
      refine norm_ (a' := ?_) ?_ ?_
      rotate_left
      · show Act.put _ (some 89) _ = _
        simp only [Act.put, List.setIfInBounds_toArray, List.set_cons_zero, List.set_cons_succ, i64_w, i32_w]
        rfl
      refine last_ (i := 35) (N := some 90) #[true, true, true, true, true, true, true, true, true, true, true, true, true, true, true, true, true, true, true, true, true, true, true, true, true, true, true, true, true, true, true, true, true, true, true, true, false] rfl rfl (by kernel_rfl) (by decide) (fun K hK => ?_)
      refine appW_step (by rfl) (.tmp 55) (.tmp 89) rfl n0 W.heap.size q p u6 xs [.fl d1 d2 d3, .fe p, .wr d4 d5 d6, .fl d7 d8 d9, .fe p] (stepA a ++ stepB a b j) (stepC a j h) (some ⟨v3.heap.size, 0, none⟩) 5 5 rfl rfl rfl (w0 := W) ?hA ?hB ?hC ?hD ?hE ?_
      case hA => exact HR.out.move (below_alloc HV3.out _) HR.out.bel.size
      case hB => exact litW_steps (xs := [.fl d1 d2 d3, .fe p, .wr d4 d5 d6, .fl d7 d8 d9, .fe p]) (by simp)
      case hC => exact ⟨isW_fl HM1.out (bel_step HV12.out (bel_step HV23.out (below_alloc (Below.refl _ _) _))) (fun b hb => TW.new HR.out (Nat.le_trans hn0 HR.out.bel.size) hb) (by omega) (by omega), rfl, isW_wr HM2.out (bel_step HV23.out (below_alloc (Below.refl _ _) _)) (fun b hb => TW.new HR.out (Nat.le_trans hn0 HR.out.bel.size) (Nat.le_trans HV1.out.size hb)) (TW.old HR.out hng.2.1 HGH.out) (by omega) h8 (HCR.out.below (below_alloc HV3.out _)).xrh, isW_fl HM3.out (below_alloc (Below.refl _ _) _) (fun b hb => TW.new HR.out (Nat.le_trans hn0 HR.out.bel.size) (Nat.le_trans HV2.out.size hb)) (by omega) (by decide), rfl, trivial⟩
      case hD => exact Nat.le_trans HR.out.bel.size (below_alloc HV3.out _).size
      case hE => have := HLX.out; simp; omega
      intro v7 w8 hw8
      have HW8 := Aside0.mk hw8
      clear hw8
      refine hK.out _ _ ?_
      clear hK K
      refine norm_ (a' := ?_) ?_ ?_
      rotate_left
      · show Act.put _ (some 90) _ = _
        simp only [Act.put, List.setIfInBounds_toArray, List.set_cons_zero, List.set_cons_succ, i64_w, i32_w]
        rfl
      refine pure_ (i := 36) (N := some 6) (v := ?_) (a' := ?_) #[true, true, true, true, true, true, true, true, true, true, true, true, true, true, true, true, true, true, true, true, true, true, true, true, true, true, true, true, true, true, true, true, true, true, true, true, true] rfl rfl (by kernel_rfl) (fun _ _ _ h => h) (Or.inl ⟨by rfl, ?_⟩) ?_ ?_
      rotate_left
      · intro w'
        go_simp
        with_reducible rfl
      rotate_left
      · simp only [Act.put, List.setIfInBounds_toArray, List.set_cons_zero, List.set_cons_succ, i64_w, i32_w]
        rfl
      refine done_ (by kernel_rfl) ?_
      obtain ⟨xs3, hxs3⟩ : ∃ xs3, xs3 = xs ++ [.fl d1 d2 d3, .fe p, .wr d4 d5 d6, .fl d7 d8 d9, .fe p] := ⟨_, rfl⟩
      obtain ⟨ms3, hms3⟩ : ∃ ms3, ms3 = stepA a ++ stepB a b j ++ stepC a j h := ⟨_, rfl⟩
      rw [← hxs3, ← hms3] at HW8
      have HML := Aside0.mk (show ms3.length ≤ 8200 by rw [hms3, List.length_append, List.length_append, stepB_length]; simp [stepA, stepC]; omega)
      have HMS := Aside0.mk hms3
      have HC8 := Aside0.mk (HC.out.below HW8.out.bel)
      have r5 := HC8.out.xs
      clear hxs3 hms3 r0 r1 r2 r3 r4
      go_wp2_with fail
      go_loopw [6, 93] (fun v i wr => ∃ (t : Nat) (ys : List StepW), t ≤ sets.length ∧ i = .int .i64 (t : Int) ∧ Aside0 (HasW W wr n0 W.heap.size q p v ys (ms3 ++ stepE (sets.take t)))) (fun _ i _ => (sets.length - intOf i).toNat)
      case atStart => exact ⟨0, xs3, Nat.zero_le _, rfl, ⟨by rw [List.take_zero, show stepE [] = [] from rfl, List.append_nil]; exact HW8.out⟩⟩
      case round =>
        obtain ⟨t, ys, ht, rfl, HY⟩ := hrel
        have HCY := Aside0.mk (HC.out.below HY.out.bel)
        by_cases hlt2 : t < sets.length
        · obtain ⟨x, hx⟩ : ∃ x, sets[t]? = some x := ⟨_, List.getElem?_eq_getElem hlt2⟩
          obtain ⟨g9, o9, hA, hcb⟩ := C_at HCY.out.xrs (by decide) hx
          have HTK := Aside0.mk (stepE_take hx)
          have HLY := Aside0.mk (show ys.length ≤ 8200 + 2 * t by have := HY.out.all.len; rw [this, List.length_append, stepE_length, List.length_take]; have := HML.out; omega)
          obtain ⟨hx8, hxp⟩ := HSS.out x (List.mem_of_getElem? hx)
          obtain ⟨x, y⟩ := x
          obtain ⟨i, hi⟩ : ∃ i : Nat, x = i := ⟨x.toNat, by have := hxp.a0; simp only at this; omega⟩
          subst hi hA
          have HPY := Aside0.mk hxp
          have hi8 : i ≤ 8192 := by simp only at hx8; omega
          have b0 : wr.cell? ⟨g9, o9 + t * 2, none⟩ = some (.int .i64 i) := hcb 0 (by decide)
          have b1x : wr.cell? ⟨g9, o9 + t * 2 + 1, none⟩ = some (.int .u64 y) := hcb 1 (by decide)
          have HST := Aside0.mk (show stepS ((i : Int), y) = [.wr (8 * i) (leB y 8), .fl (8 * i) (8 * 1)] from rfl)
          obtain ⟨wa, hwa⟩ : ∃ wa, wa = wr.alloc (.cells #[.int .i64 (i : Int), .int .u64 y] 66) := ⟨_, rfl⟩
          have HBA := Aside0.mk (show Below wr.heap.size wr wa.drew by rw [hwa]; exact (below_alloc (Below.refl _ _) _).drew)
          have HWA := Aside0.mk hwa
          have q0 : wa.cell? ⟨wr.heap.size, 0, none⟩ = some (.int .i64 i) := by rw [hwa]; exact new_cell wr _ _ 0 rfl
          have q1 : wa.cell? ⟨wr.heap.size, 1, none⟩ = some (.int .u64 y) := by rw [hwa]; exact new_cell wr _ _ 1 rfl
          have q2 : wa.cell? ⟨bl, 0, none⟩ = some (.pointer (some ⟨q, 0, none⟩)) := (HCY.out.below HBA.out).xl
          have HYA := Aside0.mk (HY.out.move HBA.out HY.out.bel.size)
          clear hx hwa hx8 hxp hcb
          go_wp2_with fail
          rw [← HWA.out]
          refine start_ (n := 15) (S := fun w' => w'.cell? ⟨wr.heap.size, 0, none⟩ = some (.int .i64 i) ∧ w'.cell? ⟨wr.heap.size, 1, none⟩ = some (.int .u64 y) ∧ w'.cell? ⟨bl, 0, none⟩ = some (.pointer (some ⟨q, 0, none⟩))) (ds := [13]) #[false, false, false, false, false, false, false, false, false, false, false, false, false, false, false] (by kernel_rfl) rfl rfl ⟨q0, q1, q2⟩ (fun hHeld => ?_)
          refine pure_ (i := 0) (N := some 97) (v := ?_) (a' := ?_) #[true, false, false, false, false, false, false, false, false, false, false, false, false, false, false] rfl rfl (by kernel_rfl) (fun _ _ _ h => h) (Or.inl ⟨by rfl, ?_⟩) ?_ ?_
          rotate_left
          · intro w'
            go_simp
            with_reducible rfl
          rotate_left
          · simp only [Act.put, List.setIfInBounds_toArray, List.set_cons_zero, List.set_cons_succ, i64_w, i32_w]
            rfl
          refine pure_ (i := 2) (N := some 99) (v := ?_) (a' := ?_) #[true, false, true, false, false, false, false, false, false, false, false, false, false, false, false] rfl rfl (by kernel_rfl) (fun _ _ _ h => h) (Or.inl ⟨by rfl, ?_⟩) ?_ ?_
          rotate_left
          · intro w'
            go_simp
            with_reducible rfl
          rotate_left
          · simp only [Act.put, List.setIfInBounds_toArray, List.set_cons_zero, List.set_cons_succ, i64_w, i32_w]
            rfl
          refine pure_ (i := 4) (N := some 101) (v := ?_) (a' := ?_) #[true, false, true, false, true, false, false, false, false, false, false, false, false, false, false] rfl rfl (by kernel_rfl) (fun _ _ _ h => h) (Or.inl ⟨by rfl, ?_⟩) ?_ ?_
          rotate_left
          · intro w'
            go_simp
            with_reducible rfl
          rotate_left
          · simp only [Act.put, List.setIfInBounds_toArray, List.set_cons_zero, List.set_cons_succ, i64_w, i32_w]
            rfl
          refine pure_ (i := 9) (N := some 106) (v := ?_) (a' := ?_) #[true, false, true, false, true, false, false, false, false, true, false, false, false, false, false] rfl rfl (by kernel_rfl) (fun _ _ _ h => h) (Or.inl ⟨by rfl, ?_⟩) ?_ ?_
          rotate_left
          · intro w'
            go_simp
            with_reducible rfl
          rotate_left
          · simp only [Act.put, List.setIfInBounds_toArray, List.set_cons_zero, List.set_cons_succ, i64_w, i32_w]
            rfl
          refine take_ (i := 1) (N := some 98) (v := ?_) (a' := ?_) #[true, true, true, false, true, false, false, false, false, true, false, false, false, false, false] rfl rfl (by kernel_rfl) (fun _ _ _ h => h) (Or.inl ⟨by rfl, ?_⟩) hHeld ?_ ?_
          rotate_left
          · rintro w' ⟨s0, s1, s2⟩
            go_simp
            with_reducible rfl
          rotate_left
          · simp only [Act.put, List.setIfInBounds_toArray, List.set_cons_zero, List.set_cons_succ, i64_w, i32_w]
            rfl
          refine take_ (i := 3) (N := some 100) (v := ?_) (a' := ?_) #[true, true, true, true, true, false, false, false, false, true, false, false, false, false, false] rfl rfl (by kernel_rfl) (fun _ _ _ h => h) (Or.inl ⟨by rfl, ?_⟩) hHeld ?_ ?_
          rotate_left
          · rintro w' ⟨s0, s1, s2⟩
            go_simp
            with_reducible rfl
          rotate_left
          · simp only [Act.put, List.setIfInBounds_toArray, List.set_cons_zero, List.set_cons_succ, i64_w, i32_w]
            rfl
          refine take_ (i := 5) (N := some 102) (v := ?_) (a' := ?_) #[true, true, true, true, true, true, false, false, false, true, false, false, false, false, false] rfl rfl (by kernel_rfl) (fun _ _ _ h => h) (Or.inl ⟨by rfl, ?_⟩) hHeld ?_ ?_
          rotate_left
          · rintro w' ⟨s0, s1, s2⟩
            go_simp
            with_reducible rfl
          rotate_left
          · simp only [Act.put, List.setIfInBounds_toArray, List.set_cons_zero, List.set_cons_succ, i64_w, i32_w]
            rfl
          refine take_ (i := 8) (N := some 105) (v := ?_) (a' := ?_) #[true, true, true, true, true, true, false, false, true, true, false, false, false, false, false] rfl rfl (by kernel_rfl) (fun _ _ _ h => h) (Or.inl ⟨by rfl, ?_⟩) hHeld ?_ ?_
          rotate_left
          · rintro w' ⟨s0, s1, s2⟩
            go_simp
            with_reducible rfl
          rotate_left
          · simp only [Act.put, List.setIfInBounds_toArray, List.set_cons_zero, List.set_cons_succ, i64_w, i32_w]
            rfl
          refine take_ (i := 10) (N := some 107) (v := ?_) (a' := ?_) #[true, true, true, true, true, true, false, false, true, true, true, false, false, false, false] rfl rfl (by kernel_rfl) (fun _ _ _ h => h) (Or.inl ⟨by rfl, ?_⟩) hHeld ?_ ?_
          rotate_left
          · rintro w' ⟨s0, s1, s2⟩
            go_simp
            with_reducible rfl
          rotate_left
          · simp only [Act.put, List.setIfInBounds_toArray, List.set_cons_zero, List.set_cons_succ, i64_w, i32_w]
            rfl
          refine one_ (i := 6) (N := some 103) #[true, true, true, true, true, true, true, false, true, true, true, false, false, false, false] rfl rfl (by kernel_rfl) (by decide) (fun K hK => ?_)
          refine goes_ Tryz.func51 (by kernel_rfl) rfl #[.int .u64 y] (by rfl) rfl rfl (by simp only [List.map_toArray, List.map_cons, List.map_nil]; rfl) ?_
          with_reducible refine (eight_calls wa.drew y HPY.out.n0 HPY.out.n1).mono ?_
          rintro e v5 ⟨g5, c5, rfl, hc5, hr5, hg5, hb5⟩
          refine ⟨_, rfl, ?_⟩
          have HR5 := Aside0.mk hr5
          have HG5 := Aside0.mk hg5
          have HB5a := Aside0.mk hb5
          have i0 := bel_cell hb5 hHeld.1
          have i1 := bel_cell hb5 hHeld.2.1
          have i2 := bel_cell hb5 hHeld.2.2
          clear hc5 hr5 hg5 hb5
          refine hK.out _ _ ⟨i0, i1, i2⟩ (fun hHeld => ?_)
          clear hK K
          refine norm_ (a' := ?_) ?_ ?_
          rotate_left
          · show Act.put _ (some 103) _ = _
            simp only [Act.put, List.setIfInBounds_toArray, List.set_cons_zero, List.set_cons_succ, i64_w, i32_w]
            rfl
          refine one_ (i := 7) (N := some 104) #[true, true, true, true, true, true, true, true, true, true, true, false, false, false, false] rfl rfl (by kernel_rfl) (by decide) (fun K hK => ?_)
          refine goes_ Tryz.func50 (by kernel_rfl) rfl #[.pointer (some ⟨q, 0, none⟩), .int .i64 (i : Int), .slice (some ⟨g5, 0, none⟩) 8 c5] (by rfl) rfl rfl (by simp only [List.map_toArray, List.map_cons, List.map_nil]; rfl) ?_
          with_reducible refine (mkwrW_calls v5 q i (some ⟨g5, 0, none⟩) 8 c5).mono ?_
          rintro e v6 ⟨f1, f2, f3, rfl, hm6, hb6⟩
          refine ⟨_, rfl, ?_⟩
          have HMa := Aside0.mk hm6
          have HR6 := Aside0.mk (HR5.out.below hb6)
          have HB6a := Aside0.mk (bel_step HB5a.out hb6)
          have HV56 := Aside0.mk hb6
          have j0 := bel_cell hb6 i0
          have j1 := bel_cell hb6 i1
          have j2 := bel_cell hb6 i2
          clear hm6 hb6
          refine hK.out _ _ ⟨j0, j1, j2⟩ (fun hHeld => ?_)
          clear hK K
          refine norm_ (a' := ?_) ?_ ?_
          rotate_left
          · show Act.put _ (some 104) _ = _
            simp only [Act.put, List.setIfInBounds_toArray, List.set_cons_zero, List.set_cons_succ, i64_w, i32_w]
            rfl
          refine one_ (i := 11) (N := some 108) #[true, true, true, true, true, true, true, true, true, true, true, true, false, false, false] rfl rfl (by kernel_rfl) (by decide) (fun K hK => ?_)
          refine goes_ Tryz.func52 (by kernel_rfl) rfl #[.pointer (some ⟨q, 0, none⟩), .int .i64 (i : Int), .int .i64 1] (by rfl) rfl rfl (by simp only [List.map_toArray, List.map_cons, List.map_nil]; rfl) ?_
          with_reducible refine (mkflW_calls v6 q i 1).mono ?_
          rintro e v7b ⟨f4, f5, f6, rfl, hm7, hb7⟩
          refine ⟨_, rfl, ?_⟩
          have HMb := Aside0.mk hm7
          have HR7 := Aside0.mk (HR6.out.below hb7)
          have HB7a := Aside0.mk (bel_step HB6a.out hb7)
          have HV67 := Aside0.mk hb7
          have k0 := bel_cell hb7 j0
          have k1 := bel_cell hb7 j1
          have k2 := bel_cell hb7 j2
          clear hm7 hb7
          refine hK.out _ _ ⟨k0, k1, k2⟩ (fun hHeld => ?_)
          clear hK K
          refine norm_ (a' := ?_) ?_ ?_
          rotate_left
          · show Act.put _ (some 108) _ = _
            simp only [Act.put, List.setIfInBounds_toArray, List.set_cons_zero, List.set_cons_succ, i64_w, i32_w]
            rfl
          refine one_ (i := 12) (N := some 109) #[true, true, true, true, true, true, true, true, true, true, true, true, true, false, false] rfl rfl (by kernel_rfl) (by decide) (fun K hK => ?_)
          refine value_ (w1 := ?_) (v := ?_) (by rfl) rfl ?_ ?_
          rotate_left 2
          · go_simp
            constructor
            · rfl
            · rfl
          have HBL := Aside0.mk (below_alloc (Below.refl v7b.heap.size v7b) (.cells #[encW (.wr f1 f2 f3), encW (.fl f4 f5 f6)] 1))
          refine hK.out _ _ ⟨(bel_cell HBL.out k0), (bel_cell HBL.out k1), (bel_cell HBL.out k2)⟩ (fun hHeld => ?_)
          clear hK K
          refine norm_ (a' := ?_) ?_ ?_
          rotate_left
          · show Act.put _ (some 109) _ = _
            simp only [Act.put, List.setIfInBounds_toArray, List.set_cons_zero, List.set_cons_succ, i64_w, i32_w]
            rfl
          refine last_ (i := 13) (N := some 110) #[true, true, true, true, true, true, true, true, true, true, true, true, true, true, false] rfl rfl (by kernel_rfl) (by decide) (fun K hK => ?_)
          refine appW_step (by rfl) (.tmp 97) (.tmp 109) rfl n0 W.heap.size q p u6 ys [.wr f1 f2 f3, .fl f4 f5 f6] (ms3 ++ stepE (sets.take t)) [.wr (8 * i) (leB y 8), .fl (8 * i) (8 * 1)] (some ⟨v7b.heap.size, 0, none⟩) 2 2 rfl rfl rfl (w0 := W) ?hA ?hB ?hC ?hD ?hE ?_
          case hA => exact HYA.out.move (bel_step HB7a.out HBL.out) (Nat.le_trans HY.out.bel.size HBA.out.size)
          case hB => exact litW_steps (xs := [.wr f1 f2 f3, .fl f4 f5 f6]) (by simp)
          case hC => exact ⟨isW_wr HMa.out (bel_step HV67.out HBL.out) (fun b hb => TW.new HYA.out (Nat.le_trans hn0 (Nat.le_trans HY.out.bel.size HBA.out.size)) (Nat.le_trans HB5a.out.size hb)) (TW.new HYA.out (Nat.le_trans hn0 (Nat.le_trans HY.out.bel.size HBA.out.size)) HG5.out) hi8 (leB_length y 8) (HR7.out.below HBL.out), isW_fl HMb.out HBL.out (fun b hb => TW.new HYA.out (Nat.le_trans hn0 (Nat.le_trans HY.out.bel.size HBA.out.size)) (Nat.le_trans HB6a.out.size hb)) hi8 (by decide), trivial⟩
          case hD => exact Nat.le_trans (Nat.le_trans HY.out.bel.size HBA.out.size) (bel_step HB7a.out HBL.out).size
          case hE => have := HLY.out; simp; omega
          intro v7 w9 hw9
          have HW9 := Aside0.mk hw9
          clear hw9
          refine hK.out _ _ ?_
          clear hK K
          refine norm_ (a' := ?_) ?_ ?_
          rotate_left
          · show Act.put _ (some 110) _ = _
            simp only [Act.put, List.setIfInBounds_toArray, List.set_cons_zero, List.set_cons_succ, i64_w, i32_w]
            rfl
          refine pure_ (i := 14) (N := some 6) (v := ?_) (a' := ?_) #[true, true, true, true, true, true, true, true, true, true, true, true, true, true, true] rfl rfl (by kernel_rfl) (fun _ _ _ h => h) (Or.inl ⟨by rfl, ?_⟩) ?_ ?_
          rotate_left
          · intro w'
            go_simp
            with_reducible rfl
          rotate_left
          · simp only [Act.put, List.setIfInBounds_toArray, List.set_cons_zero, List.set_cons_succ, i64_w, i32_w]
            rfl
          refine done_ (by kernel_rfl) ?_
          go_wp2_with fail
          go_roundw
          case rel => exact ⟨t + 1, ys ++ [.wr f1 f2 f3, .fl f4 f5 f6], by omega, by go_num, ⟨by rw [HTK.out, HST.out, ← List.append_assoc]; exact HW9.out⟩⟩
          case measure => simp [intOf]; omega
        · obtain rfl : t = sets.length := by omega
          have HYF := Aside0.mk (show HasW W wr n0 W.heap.size q p u6 ys (ms3 ++ stepE sets) from by have := HY.out; rwa [List.take_of_length_le (Nat.le_refl _)] at this)
          have HCF := Aside0.mk (HC.out.below HYF.out.bel)
          have r6 := HCF.out.xl
          have r7 := HCF.out.x0
          have HWM := Aside0.mk (show walS a h b sets = ms3 ++ stepE sets ++ [.fe] by rw [HWS.out, HMS.out])
          have HLY := Aside0.mk (show ys.length ≤ 25000 by have := HYF.out.all.len; rw [this, List.length_append, stepE_length]; have := HML.out; omega)
          obtain ⟨zs, hzs⟩ : ∃ zs, zs = ys ++ [StepW.fe p] := ⟨_, rfl⟩
          have HZS := Aside0.mk hzs
          have hz1 : zs.length = ys.length + 1 := by rw [hzs]; simp
          have hz2 := HLY.out
          have hz0 : 0 < zs.length := by omega
          have hz9 : zs.length ≤ 25001 := by omega
          clear hzs hz1 hz2
          go_wp2_with (((with_reducible refine gate_bi (b := .append) (xs := #[.tmp 112, .tmp 118]) rfl ?_); go_must (refine appW_list rfl (.tmp 112) (.tmp 118) rfl n0 W.heap.size q p u6 ys [.fe p] (ms3 ++ stepE sets) [.fe] (some ⟨wr.heap.size, 0, none⟩) 1 1 rfl rfl rfl (w0 := W) (HYF.out.move (below_alloc (Below.refl _ _) _) HYF.out.bel.size) (litW_steps (xs := [.fe p]) (by simp)) ⟨rfl, trivial⟩ (Nat.le_trans HYF.out.bel.size (by simp)) (by have := HLY.out; simp; omega) ?_); intro v10 w10 hw10; have HW10 := Aside0.mk (show HasW W w10 n0 W.heap.size q p v10 zs (walS a h b sets) from by (rw [HZS.out, HWM.out]; exact hw10)); clear hw10; obtain ⟨g10, c10, rfl, hg10, hce10⟩ := rowW_cell HW10.out.row hz0; have HG10 := Aside0.mk hg10; have HCE := Aside0.mk hce10; clear hg10 hce10))
          have HB10 := Aside0.mk ((HW10.out.bel.block B HBX.out.lt).trans HBX.out : Boxed w10 B 43 (.slice none 0 0))
          obtain ⟨Ms, hMs⟩ : ∃ Ms, Ms = walS a h b sets := ⟨_, rfl⟩
          rw [← hMs] at HW10
          have HMS2 := Aside0.mk hMs
          have HLZ := Aside0.mk HW10.out.all.len
          have HE10 := Aside0.mk (show HeldW n0 B q p g10 zs Ms w10 from ⟨⟨_, HB10.out, by simp [Value.ownBlock], HW10.out.all.monoN (fun b2 o u hu hc ht => ⟨ht.1, fun e => by subst e; exact hu (boxed_cell HB10.out hc).2, by simp [Value.ownBlock]⟩)⟩, HCE.out, fun e => by have := HBX.out.lt; have := HG10.out; omega⟩)
          have HGL := Aside0.mk (show g10 < w10.heap.size from (rowW_base HW10.out.row (b := g10) rfl).2)
          have HJ10 := Aside0.mk (HJ.out [] _ _ HJ0.out HW10.out.bel)
          clear hMs r6 r7
          go_loopw [121] (fun i wr => ∃ t : Nat, t ≤ zs.length ∧ i = .int .i64 (t : Int) ∧ Aside0 (J ((zs.zip Ms).take t) wr) ∧ Aside0 (HeldW n0 B q p g10 zs Ms wr) ∧ Aside0 (g10 < wr.heap.size)) (fun i _ => (zs.length - intOf i).toNat)
          case atStart => exact ⟨0, Nat.zero_le _, rfl, HJ10, HE10, HGL⟩
          case round =>
            obtain ⟨t, ht, rfl, HJt, HH, HG⟩ := hrel
            by_cases hlt3 : t < zs.length
            · obtain ⟨x, hx⟩ : ∃ x, zs[t]? = some x := ⟨_, List.getElem?_eq_getElem hlt3⟩
              have hcx := HH.out.row t x hx
              obtain ⟨y, hy, hz⟩ := HH.out.told hx
              have hzp : (zs.zip Ms)[t]? = some (x, y) := List.getElem?_zip_eq_some.2 ⟨hx, hy⟩
              have HZT := Aside0.mk (show (zs.zip Ms).take (t + 1) = (zs.zip Ms).take t ++ [(x, y)] by rw [List.take_add_one, hzp]; rfl)
              obtain ⟨fn, tmps, assign, body, hyr, hR⟩ := HY2.out _ (x, y) wr HJt.out hz (by rw [List.length_take]; omega)
              clear hx hy hz hzp
              refine (wpIn_wide (n := n)).1 ?_
              gi_wp2
              refine hR.mono ?_
              rintro e W3 ⟨rfl, hJ3, hk3⟩
              have HJ3 := Aside0.mk hJ3
              have HH3 := Aside0.mk (HH.out.kept hk3 HG.out)
              have HG3 := Aside0.mk (show g10 < W3.heap.size from by obtain ⟨v, hv, _⟩ := HH.out.ex; obtain ⟨_, _, hf, _⟩ := hk3 v hv; exact Nat.lt_of_lt_of_le HG.out hf.size)
              clear hJ3 hk3 hR hyr hcx
              gi_wp2
              go_roundw
              case rel => exact ⟨t + 1, by omega, by go_num, ⟨by rw [HZT.out]; exact HJ3.out⟩, HH3, HG3⟩
              case measure => simp [intOf]; omega
            · obtain rfl : t = zs.length := by omega
              go_wp2
              go_end0
              refine ⟨⟨_, rfl⟩, zs.zip Ms, ?_, ?_⟩
              · rw [← HMS2.out]
                exact List.map_snd_zip (by have := HLZ.out; omega)
              · have := HJt.out
                rwa [List.take_of_length_le (by rw [List.length_zip]; have := HLZ.out; omega)] at this
end Go.Proofs.YtbfogcckbhkciaaGreat.Hand
namespace Go.Proofs.YtbfogcckbhkciaaGreat.Hand
set_option linter.unusedVariables false
set_option linter.unusedSimpArgs false
attribute [local go_sem] Oper.semAt_some
open Go.RowKit Go.Maps Go.Proofs.YtbfogcckbhkciaaGreatW.PrintWords Go.Proofs.YtbfogcckbhkciaaGreatW.PrintLast
set_option linter.unusedVariables false
set_option linter.unusedSimpArgs false
def errW (n a k nx : Nat) (sets : List SetT) : Int := if (sets.all fun s => mayB n a k s.1) = false then 1 else if sets = [] then 1 else if (k - 1) / 2 < sets.length ∨ 4294967295 < nx then 40 else 0
theorem errW_ok {n a k nx : Nat} {sets : List SetT} (h : errW n a k nx sets = 0) : (∀ s ∈ sets, mayB n a k s.1 = true) ∧ 0 < sets.length ∧ sets.length ≤ (k - 1) / 2 ∧ nx ≤ 4294967295 := by
  unfold errW at h
  split at h
  · omega
  · rename_i h1
    split at h
    · omega
    · rename_i h2
      split at h
      · omega
      · rename_i h3
        rw [Bool.not_eq_false, List.all_eq_true] at h1
        exact ⟨h1, (List.length_pos_iff.2 h2), by omega, by omega⟩
set_option maxRecDepth 100000 in
set_option maxHeartbeats 4000000 in
theorem begin4_may (w : World) (q p : Nat) (v : Value) (s f : Nat) (d : Dev) (a k nx : Nat) (A : Option Addr) (c : Nat) (sets : List SetT) (hd : HasD w p v s f d) (h : HasL w q p a k nx) (h1 : 1 ≤ k) (hak : a + k ≤ d.B.length / 8) (hs : SetK.C w A sets.length sets) (hb : (sets.all fun s => mayB (d.B.length / 8) a k s.1) = false) : Calls Tryz.prog 12 #[.pointer (some ⟨q, 0, none⟩), .slice A sets.length c] w fun e w' => e = .returned (.tuple #[.slice none 0 0, .int .i64 1]) ∧ Below w.heap.size w w' := by
  (have hm := hd.ok.max; obtain ⟨n, hn⟩ : ∃ n : Nat, n = d.B.length / 8 := ⟨_, rfl⟩; have HMY := Aside0.mk (fun (W : World) (x : SetT) (hh : HasD W p v s f d) (hl : HasL W q p a k nx) => may_calls W q p v s f d a k nx x hh hl (by omega)); rw [← hn] at HMY; have HD := Aside0.mk hd; have HL := Aside0.mk h; have HC := Aside0.mk hs; have HRM := Aside0.mk (fun (W : World) (hl : HasL W q p a k nx) => room4_calls W q p a k nx hl h1 (by omega)); have hsl := hs.2.1)
  rw [← hn] at hb
  have HBAD := Aside0.mk hb
  clear hd h hs hn hb
  go_enter Tryz.func12, Tryz.ntmps12
  go_wp2
  go_loopw [14] (fun i wr => ∃ t : Nat, t ≤ sets.length ∧ i = .int .i64 (t : Int) ∧ Aside0 (∀ j, j < t → ∀ x, sets[j]? = some x → mayB n a k x.1 = true) ∧ Aside0 (Below w.heap.size w wr)) (fun i _ => (sets.length - intOf i).toNat)
  case atStart => exact ⟨0, Nat.zero_le _, rfl, ⟨fun j hj => absurd hj (Nat.not_lt_zero _)⟩, ⟨Below.refl _ _⟩⟩
  case round =>
    obtain ⟨t, ht, rfl, HO, HB⟩ := hrel
    by_cases hlt : t < sets.length
    · (obtain ⟨x, hx⟩ : ∃ x, sets[t]? = some x := ⟨_, List.getElem?_eq_getElem hlt⟩; obtain ⟨bb, ob, hA, hcb⟩ := C_at (Kd.C_below HC.out HB.out) (by decide) hx; obtain ⟨x, y⟩ := x; have b0 : wr.cell? ⟨bb, ob + t * 2, none⟩ = some (.int .i64 x) := hcb 0 (by decide); have b1 : wr.cell? ⟨bb, ob + t * 2 + 1, none⟩ = some (.int .u64 y) := hcb 1 (by decide); subst hA; clear hcb)
      cases hmy : mayB n a k x with
      | true =>
        have HOK := Aside0.mk (show ∀ j, j < t + 1 → ∀ z, sets[j]? = some z → mayB n a k z.1 = true from fun j hj z hz => by
          rcases Nat.lt_or_ge j t with h | h
          · exact HO.out j h z hz
          · obtain rfl : j = t := by omega
            rw [hx] at hz
            obtain rfl := Option.some.inj hz
            exact hmy)
        clear hx
        go_wp2_with (go_at_call 31; ((with_reducible refine (HMY.out _ (x, y) (HD.out.move (below_alloc HB.out _)) (HL.out.below (below_alloc HB.out _))).mono ?_); rintro e w7 ⟨rfl, hb7⟩; have HB7 := Aside0.mk (bel_step (below_alloc HB.out _) hb7); clear hb7))
        go_roundw
        case rel => exact ⟨t + 1, by omega, by go_num, HOK, HB7⟩
        case measure => simp [intOf]; omega
      | false =>
        clear hx
        go_wp2_with (go_at_call 31; ((with_reducible refine (HMY.out _ (x, y) (HD.out.move (below_alloc HB.out _)) (HL.out.below (below_alloc HB.out _))).mono ?_); rintro e w7 ⟨rfl, hb7⟩; have HB7 := Aside0.mk (bel_step (below_alloc HB.out _) hb7); clear hb7))
        go_ret2
        exact ⟨rfl, HB7.out⟩
    · exfalso
      have := HBAD.out
      rw [List.all_eq_false] at this
      obtain ⟨x, hx, hn⟩ := this
      obtain ⟨j, hj⟩ := List.getElem?_of_mem hx
      have := HO.out j (by have := (List.getElem?_eq_some_iff.1 hj).1; omega) x hj
      exact hn this
set_option maxRecDepth 100000 in
set_option maxHeartbeats 4000000 in
theorem begin4_none (w : World) (q p : Nat) (v : Value) (s f : Nat) (d : Dev) (a k nx : Nat) (A : Option Addr) (c : Nat) (sets : List SetT) (hd : HasD w p v s f d) (h : HasL w q p a k nx) (h1 : 1 ≤ k) (hak : a + k ≤ d.B.length / 8) (hs : SetK.C w A sets.length sets) (hs0 : sets = []) : Calls Tryz.prog 12 #[.pointer (some ⟨q, 0, none⟩), .slice A sets.length c] w fun e w' => e = .returned (.tuple #[.slice none 0 0, .int .i64 1]) ∧ Below w.heap.size w w' := by
  (have hm := hd.ok.max; obtain ⟨n, hn⟩ : ∃ n : Nat, n = d.B.length / 8 := ⟨_, rfl⟩; have HMY := Aside0.mk (fun (W : World) (x : SetT) (hh : HasD W p v s f d) (hl : HasL W q p a k nx) => may_calls W q p v s f d a k nx x hh hl (by omega)); rw [← hn] at HMY; have HD := Aside0.mk hd; have HL := Aside0.mk h; have HC := Aside0.mk hs; have HRM := Aside0.mk (fun (W : World) (hl : HasL W q p a k nx) => room4_calls W q p a k nx hl h1 (by omega)); have hsl := hs.2.1)
  subst hs0
  clear hd h hs hn
  go_enter Tryz.func12, Tryz.ntmps12
  go_wp2
  go_loopw [14] (fun i wr => i = .int .i64 0 ∧ Aside0 (Below w.heap.size w wr)) (fun i _ => 0)
  case atStart => exact ⟨rfl, ⟨Below.refl _ _⟩⟩
  case round =>
    obtain ⟨rfl, HB⟩ := hrel
    go_wp2
    go_ret2
    exact ⟨rfl, HB.out⟩
set_option maxRecDepth 100000 in
set_option maxHeartbeats 4000000 in
theorem begin4_full (w : World) (q p : Nat) (v : Value) (s f : Nat) (d : Dev) (a k nx : Nat) (A : Option Addr) (c : Nat) (sets : List SetT) (hd : HasD w p v s f d) (h : HasL w q p a k nx) (h1 : 1 ≤ k) (hak : a + k ≤ d.B.length / 8) (hs : SetK.C w A sets.length sets) (hall : ∀ s ∈ sets, mayB (d.B.length / 8) a k s.1 = true) (hs0 : 0 < sets.length) (hf : (k - 1) / 2 < sets.length ∨ 4294967295 < nx) : Calls Tryz.prog 12 #[.pointer (some ⟨q, 0, none⟩), .slice A sets.length c] w fun e w' => e = .returned (.tuple #[.slice none 0 0, .int .i64 40]) ∧ Below w.heap.size w w' := by
  (have hm := hd.ok.max; obtain ⟨n, hn⟩ : ∃ n : Nat, n = d.B.length / 8 := ⟨_, rfl⟩; have HMY := Aside0.mk (fun (W : World) (x : SetT) (hh : HasD W p v s f d) (hl : HasL W q p a k nx) => may_calls W q p v s f d a k nx x hh hl (by omega)); rw [← hn] at HMY; have HD := Aside0.mk hd; have HL := Aside0.mk h; have HC := Aside0.mk hs; have HRM := Aside0.mk (fun (W : World) (hl : HasL W q p a k nx) => room4_calls W q p a k nx hl h1 (by omega)); have hsl := hs.2.1)
  rw [← hn] at hall
  have HALL := Aside0.mk hall
  obtain ⟨r, hr⟩ : ∃ r : Nat, r = (k - 1) / 2 := ⟨_, rfl⟩
  rw [← hr] at hf HRM
  have hr9 : r ≤ 8192 := by omega
  clear hd h hs hn hall hr
  rcases (show r < sets.length ∨ (sets.length ≤ r ∧ 4294967295 < nx) by omega) with z1 | ⟨z1, z2⟩
  all_goals
    clear hf
    go_enter Tryz.func12, Tryz.ntmps12
    go_wp2
    (go_loopw [14] (fun i wr => ∃ t : Nat, t ≤ sets.length ∧ i = .int .i64 (t : Int) ∧ Aside0 (Below w.heap.size w wr)) (fun i _ => (sets.length - intOf i).toNat))
    case atStart => exact ⟨0, Nat.zero_le _, rfl, ⟨Below.refl _ _⟩⟩
    case round =>
      obtain ⟨t, ht, rfl, HB⟩ := hrel
      by_cases hlt : t < sets.length
      · (obtain ⟨x, hx⟩ : ∃ x, sets[t]? = some x := ⟨_, List.getElem?_eq_getElem hlt⟩; obtain ⟨bb, ob, hA, hcb⟩ := C_at (Kd.C_below HC.out HB.out) (by decide) hx; obtain ⟨x, y⟩ := x; have b0 : wr.cell? ⟨bb, ob + t * 2, none⟩ = some (.int .i64 x) := hcb 0 (by decide); have b1 : wr.cell? ⟨bb, ob + t * 2 + 1, none⟩ = some (.int .u64 y) := hcb 1 (by decide); subst hA; clear hcb)
        have hmy : mayB n a k x = true := HALL.out _ (List.mem_of_getElem? hx)
        clear hx
        go_wp2_with (go_at_call 31; ((with_reducible refine (HMY.out _ (x, y) (HD.out.move (below_alloc HB.out _)) (HL.out.below (below_alloc HB.out _))).mono ?_); rintro e w7 ⟨rfl, hb7⟩; have HB7 := Aside0.mk (bel_step (below_alloc HB.out _) hb7); clear hb7))
        go_roundw
        case rel => exact ⟨t + 1, by omega, by go_num, HB7⟩
        case measure => simp [intOf]; omega
      · obtain rfl : t = sets.length := by omega
        have c3 := (HL.out.below HB.out).cells.2.2.2
        go_wp2_with (go_at_call 9; ((with_reducible refine (HRM.out _ (HL.out.below HB.out)).mono ?_); rintro e w4 ⟨rfl, rfl⟩))
        go_ret2
        exact ⟨rfl, HB.out⟩
theorem begin4_bad (w : World) (q p : Nat) (v : Value) (s f : Nat) (d : Dev) (a k nx : Nat) (A : Option Addr) (c : Nat) (sets : List SetT) (hd : HasD w p v s f d) (h : HasL w q p a k nx) (h1 : 1 ≤ k) (hak : a + k ≤ d.B.length / 8) (hs : SetK.C w A sets.length sets) (he : errW (d.B.length / 8) a k nx sets ≠ 0) : Calls Tryz.prog 12 #[.pointer (some ⟨q, 0, none⟩), .slice A sets.length c] w fun e w' => e = .returned (.tuple #[.slice none 0 0, .int .i64 (errW (d.B.length / 8) a k nx sets)]) ∧ Below w.heap.size w w' := by
  by_cases h1x : (sets.all fun s => mayB (d.B.length / 8) a k s.1) = false
  · rw [errW, if_pos h1x]
    exact begin4_may w q p v s f d a k nx A c sets hd h h1 hak hs h1x
  · by_cases h2 : sets = []
    · rw [errW, if_neg h1x, if_pos h2]
      exact begin4_none w q p v s f d a k nx A c sets hd h h1 hak hs h2
    · by_cases h3 : (k - 1) / 2 < sets.length ∨ 4294967295 < nx
      · rw [errW, if_neg h1x, if_neg h2, if_pos h3]
        refine begin4_full w q p v s f d a k nx A c sets hd h h1 hak hs ?_ ((List.length_pos_iff.2 h2)) h3
        rw [Bool.not_eq_false, List.all_eq_true] at h1x
        exact h1x
      · exact absurd (by rw [errW, if_neg h1x, if_neg h2, if_neg h3]) he
end Go.Proofs.YtbfogcckbhkciaaGreat.Hand
namespace Go.Proofs.YtbfogcckbhkciaaGreat.Hand
set_option linter.unusedVariables false
set_option linter.unusedSimpArgs false
attribute [local go_sem] Oper.semAt_some
open Go.RowKit Go.Maps Go.Proofs.YtbfogcckbhkciaaGreatW.PrintWords Go.Proofs.YtbfogcckbhkciaaGreatW.PrintLast
set_option linter.unusedVariables false
set_option linter.unusedSimpArgs false
theorem steps4_calls (w : World) (q : Nat) (gh ch gb nb cb : Nat) (As : Option Addr) (ns cs : Nat) :
    Calls Tryz.prog 33 #[.pointer (some ⟨q, 0, none⟩), .slice (some ⟨gh, 0, none⟩) 8 ch, .slice (some ⟨gb, 0, none⟩) nb cb, .slice As ns cs] w fun e w' => e = .returned (.func (.func 60) #[] #[.pointer (some ⟨w.heap.size, 0, none⟩), .pointer (some ⟨w.heap.size + 1 + 1, 0, none⟩), .pointer (some ⟨w.heap.size + 1, 0, none⟩), .pointer (some ⟨w.heap.size + 1 + 1 + 1, 0, none⟩)]) ∧
      w' = (((w.alloc (.cells #[.pointer (some ⟨q, 0, none⟩)] 34)).alloc (.cells #[.slice (some ⟨gh, 0, none⟩) 8 ch] 22)).alloc (.cells #[.slice (some ⟨gb, 0, none⟩) nb cb] 22)).alloc (.cells #[.slice As ns cs] 46) := by
  go_enter Tryz.func33, Tryz.ntmps33
  go_wp2
  go_ret
  exact ⟨rfl, rfl⟩
theorem steps4_cap (w : World) (q p a : Nat) (gh ch gb cb : Nat) (As : Option Addr) (cs : Nat) (b h : List Int) (sets : List SetT) (hq : w.cell? ⟨q, 0, none⟩ = some (.pointer (some ⟨p, 0, none⟩))) (hq1 : w.cell? ⟨q, 1, none⟩ = some (.int .i64 a)) (hc : b.length ≤ cb)
    (hrb : ReadsInt w .u8 (some ⟨gb, 0, none⟩) b.length b) (hrh : ReadsInt w .u8 (some ⟨gh, 0, none⟩) 8 h) (hs : SetK.C w As sets.length sets) :
    Calls Tryz.prog 33 #[.pointer (some ⟨q, 0, none⟩), .slice (some ⟨gh, 0, none⟩) 8 ch, .slice (some ⟨gb, 0, none⟩) b.length cb, .slice As sets.length cs] w fun e w' => ∃ bl bb bh bs, e = .returned (.func (.func 60) #[] #[.pointer (some ⟨bl, 0, none⟩), .pointer (some ⟨bb, 0, none⟩), .pointer (some ⟨bh, 0, none⟩), .pointer (some ⟨bs, 0, none⟩)]) ∧
      w.heap.size ≤ bl ∧ CapW w' bl bb bh bs q p a gb cb gh ch As cs b h sets ∧ Below w.heap.size w w' := by
  refine (steps4_calls w q gh ch gb b.length cb As sets.length cs).mono ?_
  rintro e w' ⟨rfl, rfl⟩
  have hb : Below w.heap.size w ((((w.alloc (.cells #[.pointer (some ⟨q, 0, none⟩)] 34)).alloc (.cells #[.slice (some ⟨gh, 0, none⟩) 8 ch] 22)).alloc (.cells #[.slice (some ⟨gb, 0, none⟩) b.length cb] 22)).alloc (.cells #[.slice As sets.length cs] 46)) :=
    ((((Below.refl _ w).alloc (Nat.le_refl _) _).alloc (by simp) _).alloc (by simp; omega) _).alloc (by simp; omega) _
  refine ⟨_, _, _, _, rfl, Nat.le_refl _, ⟨?_, ?_, ?_, ?_, bel_cell hb hq, bel_cell hb hq1, hc, hrb.below hb, hrh.below hb, Kd.C_below hs hb⟩, hb⟩
  · exact cell_alloc (cell_alloc (cell_alloc (blk_cell (heap_alloc_new w _) rfl) _) _) _
  · exact cell_alloc (blk_cell (alloc_three _ _ _ _) rfl) _
  · exact cell_alloc (cell_alloc (blk_cell (alloc_two _ _ _) rfl) _) _
  · have := heap_alloc_new ((((w.alloc (.cells #[.pointer (some ⟨q, 0, none⟩)] 34)).alloc (.cells #[.slice (some ⟨gh, 0, none⟩) 8 ch] 22)).alloc (.cells #[.slice (some ⟨gb, 0, none⟩) b.length cb] 22))) (.cells #[.slice As sets.length cs] 46)
    simp only [World.size_alloc] at this
    exact blk_cell this rfl
theorem rowW_at {w w1 : World} {base : Nat} {v : Value} {xs : List StepW} (h : RowW w base v xs) (hb : ∀ b, some b = v.ownBlock → w1.heap[b]? = w.heap[b]?) : RowW w1 base v xs := by
  refine Kd.R_of_own ?_ h.1
  have ho := Kd.own_of_R h
  refine ⟨ho.1, ?_⟩
  rcases ho.2 with h2 | ⟨g, cap, cur, e, hg, h3, r⟩
  · exact .inl h2
  · exact .inr ⟨g, cap, cur, e, hg, (hb g (by rw [e]; rfl)).trans h3, r⟩
theorem rowW_blk {w : World} {base : Nat} {v : Value} {xs : List StepW} (h : RowW w base v xs) {b : Nat} (hb : some b = v.ownBlock) : ∃ o, w.heap[b]? = some o ∧ o.isCells = true := by
  obtain ⟨cs, t, fr, hc⟩ := own_blk h hb
  exact ⟨_, hc, rfl⟩
def CollW (w : World) (B q p : Nat) (pre : List (StepW × StepM)) (W : World) : Prop := ∃ v, Boxed W B 43 v ∧ RowW W w.heap.size v (pre.map Prod.fst) ∧ AllW W (TZ w.heap.size B v) q p (pre.map Prod.fst) (pre.map Prod.snd) ∧ Below w.heap.size w W
theorem CollW.own (w : World) (B q p : Nat) (C : Nat) (hC : w.heap.size ≤ C) : OwnFrom C (CollW w B q p) := by
  rintro pre W W' row ⟨v, hv, hr, ha, hb⟩ hg hrow
  have hf : Fr (fun b => row = some b) W W' := (Fr.refl _ _).grown hg (fun k hk => .inl hk)
  have hcells : ∀ b o, W.heap[b]? = some o → o.isCells = true → ¬ row = some b := by
    intro b o ho hc e
    obtain ⟨_, o2, ho2, hc2⟩ := hrow b e
    rw [ho] at ho2
    obtain rfl := Option.some.inj ho2
    rw [hc] at hc2
    cases hc2
  refine ⟨v, (hf.block B hv.lt (hcells B _ hv rfl)).trans hv, rowW_at hr (fun b hbo => ?_), ha.moveC hf (fun b o u hc _ e => ?_), hb.grown hg hb.size (fun k hk => Nat.le_trans hC (hrow k hk).1)⟩
  · obtain ⟨o, ho, hc⟩ := rowW_blk hr hbo
    exact hf.block b (blk_lt ho) (hcells b o ho hc)
  · have h1 : ∃ ob, W.heap[b]? = some ob := ⟨_, Array.getElem?_eq_getElem (World.block_lt_of_cell? _ _ hc)⟩
    obtain ⟨ob, h1⟩ := h1
    exact hcells b ob h1 (cell_cells hc h1) e
theorem walS_pos (a : Nat) (h b : List Int) (sets : List SetT) : 0 < (walS a h b sets).length := by
  rw [walS, List.length_append, List.length_singleton]
  omega
theorem coll_step {w W w1 : World} {B q p : Nat} {pre : List (StepW × StepM)} {y : StepW} {mm : StepM} {v0 v' : Value} {tmp : Obj} {news : List Value} (hn : news = [encW y]) (hv : Boxed W B 43 v0) (hr : RowW W w.heap.size v0 (pre.map Prod.fst)) (ha : AllW W (TZ w.heap.size B v0) q p (pre.map Prod.fst) (pre.map Prod.snd)) (hz : IsW W (TZ w.heap.size B v0) q p y mm) (hb : Below w.heap.size w W)
    (hg : (W.alloc tmp).grownBy w1 v0.ownBlock) (hat : v'.ownBlock = v0.ownBlock ∨ v'.ownBlock = some (W.alloc tmp).heap.size) (hv2 : Boxed (w1.setCell ⟨B, 0, none⟩ v') B 43 v')
    (hr2 : (w1.setCell ⟨B, 0, none⟩ v').ownsRow w.heap.size 1 1 v' ((pre.map Prod.fst).length + 1) (encs encW (pre.map Prod.fst) ++ news)) (hb2 : Below w.heap.size W (w1.setCell ⟨B, 0, none⟩ v')) :
    KW B W (w1.setCell ⟨B, 0, none⟩ v') ∧ CollW w B q p (pre ++ [(y, mm)]) (w1.setCell ⟨B, 0, none⟩ v') := by
  subst hn
  have hf : Fr (SK B v0 W) W (w1.setCell ⟨B, 0, none⟩ v') := (((Fr.refl _ W).alloc tmp).grown hg (fun k hk => .inl (.inr (.inl hk.symm)))).setCell (p := ⟨B, 0, none⟩) (.inl (.inl rfl)) v'
  have ho : ∀ b, some b = v'.ownBlock → some b = v0.ownBlock ∨ W.heap.size ≤ b := by
    intro b hb
    rcases hat with h | h
    · exact .inl (hb.trans h)
    · rw [h] at hb
      have := Option.some.inj hb
      simp at this
      exact .inr (by omega)
  have hs : ∀ b o u, W.cell? ⟨b, o, none⟩ = some u → b ≠ B → some b ≠ v0.ownBlock → ¬ SK B v0 W b := by
    rintro b o u hc h1 h2 (h3 | h3 | ⟨ob, h3, h4⟩)
    · exact h1 h3
    · exact h2 h3
    · have := cell_cells hc h3
      rw [h4] at this
      cases this
  refine ⟨fun v hvv => ?_, v', hv2, ?_, ?_, hb.trans hb2⟩
  · have : v = v0 := by
      have h1 : W.heap[B]? = some (.cells #[v0] 43 (0, 0)) := hv
      have h2 : W.heap[B]? = some (.cells #[v] 43 (0, 0)) := hvv
      rw [h1] at h2
      simpa using h2.symm
    subst this
    exact ⟨v', hv2, hf, ho⟩
  · refine Kd.R_of_own ?_ (fun _ _ => trivial)
    simpa [encs] using hr2
  · have hall : AllW W (TZ w.heap.size B v0) q p ((pre ++ [(y, mm)]).map Prod.fst) ((pre ++ [(y, mm)]).map Prod.snd) := by
      rw [List.map_append, List.map_append]
      exact AllW.app (ys := [y]) (ns := [mm]) ⟨hz, trivial⟩ ha
    refine ((hall.monoC (T' := fun b => TZ w.heap.size B v0 b ∧ b < W.heap.size) (fun b o u hc ht => ⟨ht, World.block_lt_of_cell? _ _ hc⟩)).moveC hf (fun b o u hc ht => hs b o u hc ht.1.2.1 ht.1.2.2)).mono (fun b _ ht => ⟨ht.1.1, ht.1.2.1, fun e => ?_⟩)
    rcases ho b e with h1 | h1
    · exact ht.1.2.2 h1
    · omega
def BegunW (w : World) (q p a k nx : Nat) (sets : List SetT) (e : Ending) (w' : World) : Prop :=
  ∃ (g c : Nat) (xs : List StepW), e = .returned (.tuple #[.slice (some ⟨g, 0, none⟩) xs.length c, .int .i64 0]) ∧ w.heap.size ≤ g ∧ (∀ t x, xs[t]? = some x → w'.cell? ⟨g, t, none⟩ = some (encW x)) ∧
    AllW w' (fun b => w.heap.size ≤ b) q p xs (walS a (headL sets.length nx (bodyL sets)) (bodyL sets) sets) ∧ HasL w' q p a k (nx + 1) ∧ Fr (fun b => b = q) w w'
set_option maxRecDepth 100000 in
set_option maxHeartbeats 8000000 in
theorem begin4_good (w : World) (q p : Nat) (v : Value) (s f : Nat) (d : Dev) (a k nx : Nat) (A : Option Addr) (c : Nat) (sets : List SetT) (hd : HasD w p v s f d) (h : HasL w q p a k nx) (h1 : 1 ≤ k) (hak : a + k ≤ d.B.length / 8) (hs : SetK.C w A sets.length sets) (he : errW (d.B.length / 8) a k nx sets = 0) (hps : ∀ s ∈ sets, PosSt s) : Calls Tryz.prog 12 #[.pointer (some ⟨q, 0, none⟩), .slice A sets.length c] w (BegunW w q p a k nx sets) := by
  obtain ⟨hall, hs0, hs1, hnx⟩ := errW_ok he
  (have hm := hd.ok.max; obtain ⟨n, hn⟩ : ∃ n : Nat, n = d.B.length / 8 := ⟨_, rfl⟩; have HMY := Aside0.mk (fun (W : World) (x : SetT) (hh : HasD W p v s f d) (hl : HasL W q p a k nx) => may_calls W q p v s f d a k nx x hh hl (by omega)); rw [← hn] at HMY; have HD := Aside0.mk hd; have HL := Aside0.mk h; have HC := Aside0.mk hs; have HRM := Aside0.mk (fun (W : World) (hl : HasL W q p a k nx) => room4_calls W q p a k nx hl h1 (by omega)); have hsl := hs.2.1)
  rw [← hn] at hall
  have HALL := Aside0.mk hall
  have HPS := Aside0.mk hps
  obtain ⟨r, hr⟩ : ∃ r : Nat, r = (k - 1) / 2 := ⟨_, rfl⟩
  rw [← hr] at hs1 HRM
  have hrk : 2 * r + 1 ≤ k := by omega
  have hak8 : a + k ≤ 8192 := by omega
  have hn8 : n ≤ 8192 := by omega
  clear hd h hs hn hall hr he hps
  refine callsIn_wide.1 (callsIn_of_wp_marks (F := Fence.wide) (n := 3) Tryz.func12 rfl trivial ?_ rfl)
  refine (wpIn_wide).2 ?_
  simp only [Tryz.ntmps12, List.size_toArray, List.length_cons, List.length_nil, Nat.reduceAdd, Nat.reduceSub, Array.replicate_succ, Array.replicate_zero, List.push_toArray, List.append_toArray, List.nil_append, List.cons_append]
  go_wp2
  (go_loopw [14] (fun i wr => ∃ t : Nat, t ≤ sets.length ∧ i = .int .i64 (t : Int) ∧ Aside0 (Below w.heap.size w wr)) (fun i _ => (sets.length - intOf i).toNat))
  case atStart => exact ⟨0, Nat.zero_le _, rfl, ⟨Below.refl _ _⟩⟩
  case round =>
    obtain ⟨t, ht, rfl, HB⟩ := hrel
    by_cases hlt : t < sets.length
    · (obtain ⟨x, hx⟩ : ∃ x, sets[t]? = some x := ⟨_, List.getElem?_eq_getElem hlt⟩; obtain ⟨bb, ob, hA, hcb⟩ := C_at (Kd.C_below HC.out HB.out) (by decide) hx; obtain ⟨x, y⟩ := x; have b0 : wr.cell? ⟨bb, ob + t * 2, none⟩ = some (.int .i64 x) := hcb 0 (by decide); have b1 : wr.cell? ⟨bb, ob + t * 2 + 1, none⟩ = some (.int .u64 y) := hcb 1 (by decide); subst hA; clear hcb)
      have hmy : mayB n a k x = true := HALL.out _ (List.mem_of_getElem? hx)
      clear hx
      go_wp2_with (go_at_call 31; ((with_reducible refine (HMY.out _ (x, y) (HD.out.move (below_alloc HB.out _)) (HL.out.below (below_alloc HB.out _))).mono ?_); rintro e w7 ⟨rfl, hb7⟩; have HB7 := Aside0.mk (bel_step (below_alloc HB.out _) hb7); clear hb7))
      go_roundw
      case rel => exact ⟨t + 1, by omega, by go_num, HB7⟩
      case measure => simp [intOf]; omega
    · obtain rfl : t = sets.length := by omega
      have c3 := (HL.out.below HB.out).cells.2.2.2
      have HP8 := Aside0.mk (show ∀ x ∈ sets, x.1 ≤ 8192 ∧ PosSt x from fun x hx => ⟨by have := may_range (HALL.out x hx); omega, HPS.out x hx⟩)
      obtain ⟨bd, hbd⟩ : ∃ bd, bd = bodyL sets := ⟨_, rfl⟩
      obtain ⟨hh, hhh⟩ : ∃ hh, hh = headL sets.length nx bd := ⟨_, rfl⟩
      have HBO := Aside0.mk (fun (W : World) (A : Option Addr) (c : Nat) (hr : SetK.C W A sets.length sets) => show Calls Tryz.prog 32 #[.slice A sets.length c] W (fun e w' => ∃ g c, e = .returned (.slice (some ⟨g, 0, none⟩) bd.length c) ∧ bd.length ≤ c ∧ ReadsInt w' .u8 (some ⟨g, 0, none⟩) bd.length bd ∧ W.heap.size ≤ g ∧ Below W.heap.size W w') from by
        rw [hbd]
        refine (body_calls W A c sets hr HPS.out (by omega)).mono ?_
        rintro e w' ⟨v2, rfl, hr2, hb2⟩
        obtain ⟨gb, cb, rfl, hcb2, hrd2, hgb2⟩ := row_form hr2 (by rw [bodyL_length]; omega)
        exact ⟨gb, cb, rfl, hcb2, hrd2, hgb2, hb2⟩)
      have HHD := Aside0.mk (fun (W : World) (A : Option Addr) (c : Nat) (hr : ReadsInt W .u8 A bd.length bd) => show Calls Tryz.prog 34 #[.int .i64 (sets.length : Int), .int .i64 (nx : Int), .slice A bd.length c] W (fun e w' => ∃ g c, e = .returned (.slice (some ⟨g, 0, none⟩) 8 c) ∧ ReadsInt w' .u8 (some ⟨g, 0, none⟩) 8 hh ∧ W.heap.size ≤ g ∧ Below W.heap.size W w') from by
        rw [hhh]
        refine (head_calls W sets.length nx A c bd hr (by omega) (by omega) (by omega) (by omega) (by rw [hbd, bodyL_length]; omega)).mono ?_
        rintro e w' ⟨v3, rfl, hr3, hb3⟩
        obtain ⟨gh, ch, rfl, _, hrd3, hgh3⟩ := row_form hr3 (by rw [headL_length]; decide)
        have hl8 := headL_length (sets.length : Int) nx bd
        rw [hl8] at hrd3
        exact ⟨gh, ch, by rw [hl8], hrd3, hgh3, hb3⟩)
      have HBN := Aside0.mk (show bd.length = 8 * (2 * sets.length) by rw [hbd, bodyL_length]; omega)
      have HBY := Aside0.mk (show Bys bd by rw [hbd]; exact bodyL_bys sets)
      have HHY := Aside0.mk (show Bys hh by rw [hhh]; exact headL_bys _ _ _)
      have HH8 := Aside0.mk (show hh.length = 8 by rw [hhh]; exact headL_length _ _ _)
      have HWA := Aside0.mk (show walS a (headL sets.length nx (bodyL sets)) (bodyL sets) sets = walS a hh bd sets by rw [hhh, hbd])
      clear hbd hhh
      have HN16 := Aside0.mk (show (sets.length : Int) < 65536 by omega)
      go_wp2_with (first | (go_at_call 9; ((with_reducible refine (HRM.out _ (HL.out.below HB.out)).mono ?_); rintro e w4 ⟨rfl, rfl⟩)) | ((with_reducible refine gate_bi (b := .append) (xs := #[.tmp 40, .tmp 41]) rfl ?_); go_must (refine Kd.R_append_rows SetK (w0 := wr) wr.heap.size rfl (.tmp 40) (.tmp 41) 46 66 (.agg #[.int .i64 0, .int .u64 0]) 16 rfl Tryz.underlying46 info_set rfl (by decide) (by decide) (.slice (some ⟨wr.heap.size, 0, none⟩) 0 0) [] sets A sets.length c (fun _ => True) (fun _ => False) rfl rfl ?c1 ?c2 (fun _ _ h => h) (fun _ h => h.elim) (fun _ _ => trivial) (below_alloc (Below.refl _ _) _) (by simp) (by simp; omega) ?_)))
      case c1 => exact R_flat.2 ⟨fun _ _ => trivial, by have h := World.ownsRow_made (e := 66) (size := 2) wr #[] 0 (show wr.heap.size ≤ _ by simp) (Nat.zero_le _) (rfl : (#[] : Array Value).size = 0 * 2); simpa using h⟩
      case c2 => exact Kd.C_below HC.out (below_alloc HB.out _)
      intro v1 w1 ho hb1 hg hat
      have HO1 := Aside0.mk (show RowSt w1 wr.heap.size v1 sets from ho)
      have HB1 := Aside0.mk hb1
      obtain ⟨A5, c5, rfl, _, hC5⟩ := flat_reads ho
      have HC5 := Aside0.mk (show SetK.C w1 A5 sets.length sets from hC5)
      clear ho hb1 hg hat hC5
      have HBL1 := Aside0.mk (bel_step HB.out HB1.out (by exact Nat.le_refl _))
      go_wp2_with (first | (go_at_call 32; ((with_reducible refine (HBO.out w1 A5 c5 HC5.out).mono ?_); rintro e w2 ⟨gb, cb, rfl, hcb2, hrd2, hgb2, hb2⟩; have HRB := Aside0.mk hrd2; have HGB := Aside0.mk hgb2; have HCB := Aside0.mk hcb2; have HB2 := Aside0.mk hb2; have c3b := cell_alloc (HL.out.below (bel_step HBL1.out hb2)).cells.2.2.2 (.cells #[.slice none 0 0] 43); clear hcb2 hrd2 hgb2 hb2)) | (go_at_call 34; ((with_reducible refine (HHD.out _ (some ⟨gb, 0, none⟩) cb (HRB.out.below (below_alloc (Below.refl _ _) _))).mono ?_); rintro e w3 ⟨gh, ch, rfl, hrd3, hgh3, hb3⟩; have HRH := Aside0.mk hrd3; have HGH := Aside0.mk hgh3; have HB3 := Aside0.mk hb3; clear hrd3 hgh3 hb3; have HLW3 := Aside0.mk (bel_step (below_alloc (bel_step HBL1.out HB2.out) _) HB3.out))) | (go_at_call 33; ((with_reducible refine (steps4_cap w3 q p a gh ch gb cb A5 c5 bd hh sets (HL.out.below HLW3.out).cells.1 (HL.out.below HLW3.out).cells.2.1 HCB.out (HRB.out.below (bel_step (below_alloc (Below.refl _ _) _) HB3.out)) HRH.out (Kd.C_below HC5.out (bel_step (below_alloc HB2.out _) HB3.out))).mono ?_); rintro e w4 ⟨bl, bb, bh, bs, rfl, hbl4, hcap4, hb4⟩; have HCAP := Aside0.mk hcap4; have HBL4 := Aside0.mk hbl4; have HB4 := Aside0.mk hb4; clear hbl4 hcap4 hb4)))
      have HLW4 := Aside0.mk (bel_step HLW3.out HB4.out)
      have HBX3 := Aside0.mk (show Boxed w3 w2.heap.size 43 (.slice none 0 0) from (HB3.out.block w2.heap.size (by simp)).trans (heap_alloc_new w2 _))
      have HBX4 := Aside0.mk (show Boxed w4 w2.heap.size 43 (.slice none 0 0) from (HB4.out.block w2.heap.size HBX3.out.lt).trans HBX3.out)
      have z2 : w.heap.size ≤ w2.heap.size := (bel_step HBL1.out HB2.out).size
      have z3 : w2.heap.size < w3.heap.size := HBX3.out.lt
      have z4 : w3.heap.size ≤ w4.heap.size := HB4.out.size
      obtain ⟨i0, hi, hz0, hz1, hz2⟩ := info_parts info_fnW
      refine (wpIn_wide (n := 3)).1 ?_
      refine range_told (n := 3) (by decide) (gf := 60) (lb := #[.pointer (some ⟨bl, 0, none⟩), .pointer (some ⟨bb, 0, none⟩), .pointer (some ⟨bh, 0, none⟩), .pointer (some ⟨bs, 0, none⟩)]) rfl (enters_of Tryz.func60 (by kernel_rfl) rfl)
        (steps1_goes 2 (by decide) w4 w.heap.size w2.heap.size bl bb bh bs q p a gb cb gh ch A5 c5 bd hh sets HCAP.out HBX4.out (2 * sets.length) HBN.out (by omega) (by omega) ⟨?n1, ?n2, ?n3⟩ HH8.out HBY.out HHY.out (by omega) HP8.out (by omega)) (Below.refl _ _) (CollW w w2.heap.size q p) (CollW.own w w2.heap.size q p _ (by omega)) (fun h k => h.trans k) (fun W l o o' hl h hc => KW.put (by omega) h hc) (fun x W l o o' hl h hc hz => hz.put (by omega) h hc)
        ⟨.slice none 0 0, HBX4.out, Kd.R_nil _ _ _ _ _, trivial, HLW4.out⟩ ?_ ?assign ?body ?done
      case n1 => have := HGB.out; have := HBL1.out.size; omega
      case n2 => have := HGH.out; simp at this; omega
      case n3 => have := HBL4.out; omega
      case assign =>
        intro l x W K hK
        gi_wp2
        exact hK
      case body =>
        rintro l pre x W ⟨v0, hv, hrow, hall, hb⟩ hz hlen
        have hc := hv.cell
        have hrow1 := Kd.own_of_R hrow
        have hpl : (pre.map Prod.fst).length = pre.length := by simp
        have HZ := Aside0.mk (hz v0 hv)
        have HR := Aside0.mk hrow
        have HA := Aside0.mk hall
        clear hz hrow hall
        obtain ⟨y, mm⟩ := x
        cases y
        all_goals
          simp only [encW]
          gi_wp2_with (gi_at_builtin; go_loud (refine wpListIn_append_own_at _ rfl _ _ 43 rfl w.heap.size 1 i0 .nilFunc 1 8 Tryz.underlying43 hi hz0 hz1 hz2 rfl (by decide) _ _ _ rfl (hrow1.alloc _) ⟨W.heap.size, 0, none⟩ 1 1 [_] rfl rfl (cell_one_new _ _ _) (by simp [Value.oneCell']) (by simp only [maxLen]; omega) (by omega) (by have := hb.size; simp; omega) ?_; intro v' w1 hown' hgrow _ hat; obtain ⟨g', cap', rfl⟩ := ownsRow_succ hown'; obtain ⟨hv1, hv2, hr2, hk2, hb2⟩ := hv.appended (by decide) hrow1 hb.size (by omega) hown' hgrow; have hc1 := hv1.cell; have hf1 := hv1.frozen))
          obtain ⟨hk3, hc3⟩ := coll_step rfl hv HR.out HA.out HZ.out hb hgrow hat hv2 hr2 hb2
          rw [hpl] at hk2 hk3 hc3
          exact ⟨hk2.from _, hk3, hc3⟩
      case done =>
        rintro D ys W hD hS ⟨v0, hv, hrow, hall, hb⟩ hK
        have hyl : 0 < (ys.map Prod.fst).length := by
          have h1 : (ys.map Prod.snd).length = (walS a hh bd sets).length := by rw [hS]
          have h2 := walS_pos a hh bd sets
          rw [List.length_map] at h1 ⊢
          omega
        obtain ⟨g, cg, rfl, hg, hce⟩ := rowW_cell hrow hyl
        have HC := Aside0.mk hce
        have HA := Aside0.mk hall
        have HGE := Aside0.mk hg
        have HBW := Aside0.mk hb
        have HKD := Aside0.mk hK
        have HLQ := Aside0.mk (HL.out.below hb)
        have hc := hv.cell
        have hq3 := (HL.out.below hb).cells.2.2.2
        have hfz := blk_free (HL.out.below hb).ptr 3
        have e1 : IntKind.i64.wrap ((nx : Int) + 1) = (nx : Int) + 1 := IntWalk.i64_in _ (by omega)
        have hne : q ≠ w2.heap.size := by have := blk_lt HL.out.ptr; omega
        clear hrow hall hce hb hK hg
        go_wp2
        have hKD2 : (W.setCell ⟨q, 3, none⟩ (.int .i64 ((nx : Int) + 1))).heap[D]? = some (.deferred (some [])) := (KeepsOthers.setCell _ _ _).same D _ HKD.out rfl
        have hqD : q < D := by have := blk_lt HL.out.ptr; omega
        refine ⟨by simp, .inl ⟨_, _, rfl, run_takeDeferred hKD2, ?_⟩⟩
        refine ⟨_, results_tmp2 rfl _ _ _, ?_⟩
        have hF : Fr (fun b => b = q) w ((W.setCell ⟨q, 3, none⟩ (.int .i64 ((nx : Int) + 1))).putObj D (.deferred none)) := by
          refine ((Fr.of_below HBW.out (fun b => b = q)).setCell (p := ⟨q, 3, none⟩) (.inl rfl) _).trans (fr_put _ (fun b => b = D) rfl) (fun b hb hlt => ?_)
          subst hb
          omega
        have hF2 : Fr (fun b => b = q ∨ b = D) W ((W.setCell ⟨q, 3, none⟩ (.int .i64 ((nx : Int) + 1))).putObj D (.deferred none)) :=
          ((Fr.refl (fun b => b = q ∨ b = D) W).setCell (p := ⟨q, 3, none⟩) (.inl (.inl rfl)) _).trans (fr_put _ (fun b => b = D) rfl) (fun b hb _ => .inr hb)
        have hqw : q < w.heap.size := blk_lt HL.out.ptr
        have hcD : ∀ b o u, W.cell? ⟨b, o, none⟩ = some u → b ≠ D := by
          intro b o u hc e
          subst e
          have := cell_cells hc HKD.out
          cases this
        refine ⟨g, cg, ys.map Prod.fst, ?_, HGE.out, fun t x hx => hF2.cell (HC.out t x hx) ?_, ?_, ⟨?_⟩, hF⟩
        · simp
        · rintro (h | h)
          · have := HGE.out; simp only at h; omega
          · exact hcD _ _ _ (HC.out t x hx) h
        · rw [HWA.out, ← hS]
          refine (HA.out.moveC hF2 (fun b o u hc ht => ?_)).mono (fun b _ ht => ht.1)
          rintro (h | h)
          · have := ht.1; omega
          · exact hcD _ _ _ hc h
        · have h1 := blk_set HLQ.out.ptr 3 (.int .i64 ((nx : Int) + 1))
          exact (World.putObj_heap_other (by omega)).trans h1
end Go.Proofs.YtbfogcckbhkciaaGreat.Hand
namespace Go.Proofs.YtbfogcckbhkciaaGreat.Hand
set_option linter.unusedVariables false
set_option linter.unusedSimpArgs false
open Go.RowKit Go.Maps Go.Proofs.YtbfogcckbhkciaaGreatW.PrintWords Go.Proofs.YtbfogcckbhkciaaGreatW.PrintLast
set_option linter.unusedVariables false
set_option linter.unusedSimpArgs false
theorem HasL.ne_dev {w : World} {q p a k nx : Nat} (h : HasL w q p a k nx) {p2 : Nat} {v : Value} {s f : Nat} {d : Dev} (hd : HasD w p2 v s f d) : p2 ≠ q := by
  intro e
  subst e
  have h1 := hd.ptr
  rw [h.ptr] at h1
  have := congrArg (fun o => match o with | some (Obj.cells cs _ _) => cs.size | _ => 0) h1
  simp at this
theorem walS_okm {a : Nat} {h b : List Int} {sets : List SetT} (hh : Bys h) (hb : Bys b) : ∀ m ∈ walS a h b sets, OkM m := by
  intro m hm
  rw [walS] at hm
  simp only [List.mem_append] at hm
  rcases hm with (((hm | hm) | hm) | hm) | hm
  · simp only [stepA, List.mem_cons, List.not_mem_nil, or_false] at hm
    rcases hm with rfl | rfl | rfl
    · intro x hx
      rw [List.eq_of_mem_replicate hx]
      decide
    · trivial
    · trivial
  · obtain ⟨i, _, rfl⟩ := List.mem_map.1 hm
    exact cut_bys hb _ _
  · simp only [stepC, List.mem_cons, List.not_mem_nil, or_false] at hm
    rcases hm with rfl | rfl | rfl | rfl | rfl
    · trivial
    · trivial
    · exact hh
    · trivial
    · trivial
  · obtain ⟨x, _, hm⟩ := List.mem_flatMap.1 hm
    simp only [stepS, List.mem_cons, List.not_mem_nil, or_false] at hm
    rcases hm with rfl | rfl
    · exact leB_bysq _ _
    · trivial
  · obtain rfl := List.mem_singleton.1 hm
    trivial
theorem walS_length (a : Nat) (h : List Int) (sets : List SetT) : (walS a h (bodyL sets) sets).length = 9 + 4 * sets.length := by
  rw [walS, List.length_append, List.length_append, List.length_append, List.length_append, stepB_length, stepE_length, bodyL_length]
  simp [stepA, stepC]
  omega
def walM (a nx : Nat) (sets : List SetT) : List StepM := walS a (headL sets.length nx (bodyL sets)) (bodyL sets) sets
theorem errW_pos {n a k nx : Nat} {sets : List SetT} (he : errW n a k nx sets = 0) (hw : ∀ s ∈ sets, WfSt s) : ∀ s ∈ sets, PosSt s := by
  intro s hs
  have h1 := may_range ((errW_ok he).1 s hs)
  obtain ⟨_, h2, h3, h4⟩ := hw s hs
  exact ⟨h1.1, h2, h3, h4⟩
def CommitE (w : World) (q p : Nat) (v : Value) (s f : Nat) (d : Dev) (a k nx : Nat) (sets : List SetT) (e : Ending) (w' : World) : Prop :=
  e = .returned (.int .i64 0) ∧ HasD w' p v s f (d.steps (walM a nx sets)) ∧ HasL w' q p a k (nx + 1) ∧ Fr (fun b => OwnD v s f b ∨ b = q) w w'
set_option maxRecDepth 100000 in
set_option maxHeartbeats 4000000 in
theorem commit_good (w : World) (q p : Nat) (v : Value) (s f : Nat) (d : Dev) (a k nx : Nat) (A : Option Addr) (c : Nat) (sets : List SetT) (hd : HasD w p v s f d) (h : HasL w q p a k nx) (hqo : ¬ OwnD v s f q) (h1 : 1 ≤ k) (hak : a + k ≤ d.B.length / 8) (hs : SetK.C w A sets.length sets) (hw : ∀ s ∈ sets, WfSt s) (he : errW (d.B.length / 8) a k nx sets = 0) :
    Calls Tryz.prog 21 #[.pointer (some ⟨q, 0, none⟩), .slice A sets.length c] w (CommitE w q p v s f d a k nx sets) := by
  have HB := Aside0.mk (show Calls Tryz.prog 12 #[.pointer (some ⟨q, 0, none⟩), .slice A sets.length c] w (fun e w' => ∃ (g c : Nat) (xs : List StepW), e = .returned (.tuple #[.slice (some ⟨g, 0, none⟩) xs.length c, .int .i64 0]) ∧ w.heap.size ≤ g ∧ (∀ t x, xs[t]? = some x → w'.cell? ⟨g, t, none⟩ = some (encW x)) ∧
    AllW w' (fun b => w.heap.size ≤ b) q p xs (walM a nx sets) ∧ HasL w' q p a k (nx + 1) ∧ Fr (fun b => b = q) w w') from begin4_good w q p v s f d a k nx A c sets hd h h1 hak hs he (errW_pos he hw))
  have HOK := Aside0.mk (show ∀ m ∈ walM a nx sets, OkM m from walS_okm (headL_bys _ _ _) (bodyL_bys _))
  have hml : (walM a nx sets).length ≤ 40000 := by
    have := (errW_ok he).2.2.1
    have hm := hd.ok.max
    rw [walM, walS_length]
    omega
  have HH := Aside0.mk hd
  have HNE := Aside0.mk (h.ne_dev hd)
  have HQO := Aside0.mk hqo
  obtain ⟨ms, hms⟩ : ∃ ms, ms = walM a nx sets := ⟨_, rfl⟩
  have HSV := Aside0.mk (show CommitE w q p v s f d a k nx sets = fun e w' => e = .returned (.int .i64 0) ∧ HasD w' p v s f (d.steps ms) ∧ HasL w' q p a k (nx + 1) ∧ Fr (fun b => OwnD v s f b ∨ b = q) w w' by rw [hms]; rfl)
  rw [HSV.out]
  rw [← hms] at HB HOK hml
  clear hd h hs hw he hms HSV hqo
  go_enter Tryz.func21, Tryz.ntmps21
  go_wp2_with (go_at_call 12; ((with_reducible refine HB.out.mono ?_); rintro e w1 ⟨g, cu, xs, rfl, hg, hcell, hall, hl1, hf1⟩; have HAL := Aside0.mk hall; have HF1 := Aside0.mk hf1; have HL1 := Aside0.mk hl1; have HXL := Aside0.mk hall.len; have HCE := Aside0.mk hcell; have HG := Aside0.mk hg; clear hall hf1 hl1 hcell hg))
  have hxl2 : xs.length ≤ 40000 := by have := HXL.out; omega
  have HD1 := Aside0.mk (HH.out.fr HF1.out HNE.out (fun b hb e => HQO.out (e ▸ hb)))
  have HTO := Aside0.mk (show ∀ b, w.heap.size ≤ b → ¬ OwnD v s f b from fun b hb => not_own_ge HH.out hb)
  go_loopw [17] (fun i wr => ∃ k : Nat, k ≤ xs.length ∧ i = .int .i64 (k : Int) ∧ Aside0 (HasD wr p v s f (d.steps (ms.take k))) ∧ Aside0 (Fr (OwnD v s f) w1 wr)) (fun i _ => (xs.length - intOf i).toNat)
  case atStart => exact ⟨0, Nat.zero_le _, rfl, HD1, ⟨Fr.refl _ _⟩⟩
  case round =>
    obtain ⟨t, ht, rfl, HD, HF⟩ := hrel
    by_cases hlt : t < xs.length
    · obtain ⟨x, hx⟩ : ∃ x, xs[t]? = some x := ⟨_, List.getElem?_eq_getElem hlt⟩
      obtain ⟨m, hm, hst1⟩ := HAL.out.get hx
      have hst := hst1.move HF.out HTO.out
      have hcx := HF.out.cell (HCE.out t x hx) (HTO.out _ HG.out)
      have HTK := Aside0.mk (take_steps (d := d) hm)
      have hok := HOK.out m (List.mem_of_getElem? hm)
      have hlq := (HL1.out.fr HF.out HQO.out).cells.1
      clear hst1 hm hx
      cases x with
      | wr bd ba bx =>
        cases m with
        | wr a y =>
          have HDO := Aside0.mk (stepW_wr wr q p v s f _ _ bd ba bx a y HD.out hlq hst hok)
          simp only [encW] at hcx
          clear hst hok hlq
          go_wp2_with (go_at_call 71; ((with_reducible refine HDO.out.mono ?_); rintro e w3 ⟨rfl, hd, hf⟩; have HD3 := Aside0.mk hd; have HF3 := Aside0.mk (HF.out.trans' hf); clear hd hf))
          refine ⟨⟨t + 1, by omega, by go_num, ⟨?_⟩, HF3⟩, by simp [intOf]; omega⟩
          rw [HTK.out]
          exact HD3.out
        | fl a n => exact hst.elim
        | fe => exact hst.elim
      | fl bd ba bn =>
        cases m with
        | fl a n =>
          have HDO := Aside0.mk (stepW_fl wr q p v s f _ _ bd ba bn a n HD.out hlq hst)
          simp only [encW] at hcx
          clear hst hok hlq
          go_wp2_with (go_at_call 72; ((with_reducible refine HDO.out.mono ?_); rintro e w3 ⟨rfl, hd, hf⟩; have HD3 := Aside0.mk hd; have HF3 := Aside0.mk (HF.out.trans' hf); clear hd hf))
          refine ⟨⟨t + 1, by omega, by go_num, ⟨?_⟩, HF3⟩, by simp [intOf]; omega⟩
          rw [HTK.out]
          exact HD3.out
        | wr a n => exact hst.elim
        | fe => exact hst.elim
      | fe r =>
        cases m with
        | fe =>
          obtain rfl : r = p := hst
          have HDO := Aside0.mk (stepW_fe wr r v s f _ HD.out)
          simp only [encW] at hcx
          clear hok hlq
          go_wp2_with (go_at_call 47; ((with_reducible refine HDO.out.mono ?_); rintro e w3 ⟨rfl, hd, hf⟩; have HD3 := Aside0.mk hd; have HF3 := Aside0.mk (HF.out.trans' hf); clear hd hf))
          refine ⟨⟨t + 1, by omega, by go_num, ⟨?_⟩, HF3⟩, by simp [intOf]; omega⟩
          rw [HTK.out]
          exact HD3.out
        | wr a n => exact hst.elim
        | fl a n => exact hst.elim
    · obtain rfl : t = xs.length := by omega
      go_wp2
      go_ret
      have h := HD.out
      rw [List.take_of_length_le (by have := HXL.out; omega)] at h
      exact ⟨rfl, h, HL1.out.fr HF.out HQO.out, (HF1.out.mono (fun b hb => .inr hb)).trans' (HF.out.mono (fun b hb => .inl hb))⟩
theorem own4_calls (w : World) (A : Option Addr) (c : Nat) (sets : List SetT) (h : SetK.C w A sets.length sets) (hl : sets.length ≤ 100000) :
    Calls Tryz.prog 13 #[.slice A sets.length c] w fun e w' => ∃ v : Value, e = .returned v ∧ RowSt w' w.heap.size v sets ∧ Below w.heap.size w w' := by
  have HC := Aside0.mk h
  clear h
  go_enter Tryz.func13, Tryz.ntmps13
  go_wp2
  go_loopw [3, 8] (fun u i wr => ∃ t : Nat, t ≤ sets.length ∧ i = .int .i64 (t : Int) ∧ Aside0 (RowSt wr w.heap.size u (sets.take t)) ∧ Aside0 (Below w.heap.size w wr)) (fun _ i _ => (sets.length - intOf i).toNat)
  case atStart => exact ⟨0, Nat.zero_le _, rfl, ⟨Kd.R_nil _ _ _ _ _⟩, ⟨Below.refl _ _⟩⟩
  case round =>
    obtain ⟨t, ht, rfl, HR, HB⟩ := hrel
    by_cases hlt : t < sets.length
    · obtain ⟨x, hx⟩ : ∃ x, sets[t]? = some x := ⟨_, List.getElem?_eq_getElem hlt⟩
      obtain ⟨bb, ob, hA, hcb⟩ := C_at (Kd.C_below HC.out HB.out) (by decide) hx
      have HTK := Aside0.mk (show sets.take (t + 1) = sets.take t ++ [x] by rw [List.take_add_one, hx]; rfl)
      have HLK := Aside0.mk (show (sets.take t).length = t by rw [List.length_take]; omega)
      obtain ⟨x, y⟩ := x
      have b0 : wr.cell? ⟨bb, ob + t * 2, none⟩ = some (.int .i64 x) := hcb 0 (by decide)
      have b1 : wr.cell? ⟨bb, ob + t * 2 + 1, none⟩ = some (.int .u64 y) := hcb 1 (by decide)
      subst hA
      obtain ⟨L, hL⟩ : ∃ L, L = sets.take t := ⟨_, rfl⟩
      rw [← hL] at HR HTK HLK
      clear hcb hx hL
      have HBA := Aside0.mk (below_alloc (Below.refl wr.heap.size wr) (.cells #[.int .i64 x, .int .u64 y] 81))
      go_wp2_with ((with_reducible refine gate_bi (b := .append) (xs := #[.tmp 12, .tmp 14]) rfl ?_); go_must (refine Kd.R_append SetK (w0 := w) w.heap.size rfl (.tmp 12) (.tmp 14) 46 66 (.agg #[.int .i64 0, .int .u64 0]) 16 rfl Tryz.underlying46 info_set rfl (by decide) (by omega) _ L (x, y) [.int .i64 x, .int .u64 y] (fun _ => True) (fun _ => False) rfl (by rw [World.size_alloc]; rfl) rfl (fun _ hk => hk.elim) (fun _ _ => trivial) (Kd.R_below HR.out HBA.out) (bel_step HB.out HBA.out) (bel_step HB.out HBA.out).size (by have := HLK.out; omega) ?_); intro v8 w8 hr8 hb8 hg8 hat8; have HV8 := Aside0.mk hr8; have HB8 := Aside0.mk hb8; clear hr8 hb8 hg8 hat8)
      go_roundw
      case rel => exact ⟨t + 1, by omega, by go_num, ⟨by rw [HTK.out]; exact HV8.out⟩, HB8⟩
      case measure => simp [intOf]; omega
    · obtain rfl : t = sets.length := by omega
      go_wp2
      go_ret
      have := HR.out
      rw [List.take_of_length_le (Nat.le_refl _)] at this
      exact ⟨_, rfl, this, HB.out⟩
end Go.Proofs.YtbfogcckbhkciaaGreat.Hand
namespace Go.Proofs.YtbfogcckbhkciaaGreat.Hand
set_option linter.unusedVariables false
set_option linter.unusedSimpArgs false
open Go.RowKit Go.Maps Go.Proofs.YtbfogcckbhkciaaGreatW.PrintWords
set_option linter.unusedVariables false
set_option linter.unusedSimpArgs false
structure Is (d : Dev) (n : Nat) (W : Nat → List Int) (S : Nat → Option (List Int)) (F : Nat → Bool) : Prop where
  len : d.B.length = 8 * n
  w : ∀ k, k < n → word d.B k = W k
  s : ∀ k, d.S k = S k
  f : ∀ k, d.F k = F k
theorem Is.congr {d : Dev} {n : Nat} {W W' : Nat → List Int} {S S' : Nat → Option (List Int)} {F F' : Nat → Bool} (h : Is d n W S F) (hw : ∀ k, k < n → W k = W' k) (hs : ∀ k, S k = S' k) (hf : ∀ k, F k = F' k) : Is d n W' S' F' :=
  ⟨h.len, fun k hk => (h.w k hk).trans (hw k hk), fun k => (h.s k).trans (hs k), fun k => (h.f k).trans (hf k)⟩
theorem hit_word (i k : Nat) : hitB (8 * i) 8 k = decide (k = i) := by
  rw [hitB]
  exact decide_eq_decide.2 (by omega)
theorem hit_words (i m k : Nat) : hitB (8 * i) (8 * m) k = decide (i ≤ k ∧ k < i + m) := by
  rw [hitB]
  exact decide_eq_decide.2 (by omega)
theorem word_splice {B x : List Int} {i k : Nat} (hx : x.length = 8) (hi : 8 * i + 8 ≤ B.length) : word (B.take (8 * i) ++ (x ++ B.drop (8 * i + 8))) k = if k = i then x else word B k := by
  rw [word, cut]
  by_cases h1 : k = i
  · subst h1
    rw [if_pos rfl, List.drop_append_of_le_length (by rw [List.length_take]; omega), List.drop_eq_nil_of_le (by rw [List.length_take]; omega), List.nil_append, List.take_append_of_le_length (by omega), List.take_of_length_le (by omega)]
  · rw [if_neg h1]
    apply List.ext_getElem?
    intro t
    rw [word, cut]
    by_cases ht : t < 8
    · rw [List.getElem?_take_of_lt ht, List.getElem?_take_of_lt ht, List.getElem?_drop, List.getElem?_drop]
      by_cases h2 : k < i
      · rw [List.getElem?_append_left (by rw [List.length_take]; omega), List.getElem?_take_of_lt (by omega)]
      · rw [List.getElem?_append_right (by rw [List.length_take]; omega), List.length_take, Nat.min_eq_left (by omega), List.getElem?_append_right (by omega), List.getElem?_drop]
        congr 1
        omega
    · rw [List.getElem?_take_eq_none (by omega), List.getElem?_take_eq_none (by omega)]
theorem Is.wr {d : Dev} {n : Nat} {W : Nat → List Int} {S : Nat → Option (List Int)} {F : Nat → Bool} (h : Is d n W S F) {i : Nat} {x : List Int} (hi : i < n) (hx : x.length = 8) :
    Is (d.step (.wr (8 * i) x)) n (fun k => if k = i then x else W k) (fun k => if k = i then some ((S k).getD (W k)) else S k) (fun k => F k && !decide (k = i)) := by
  have hl := h.len
  have e : d.step (.wr (8 * i) x) = d.write (8 * i) x := if_pos (by omega)
  rw [e]
  refine ⟨?_, fun k hk => ?_, fun k => ?_, fun k => ?_⟩
  · rw [Dev.write]
    exact (splice_length (by omega)).trans hl
  · simp only [Dev.write, hx]
    rw [word_splice hx (by omega), h.w k hk]
  · simp only [Dev.write, hx, hit_word, decide_eq_true_eq]
    by_cases hk : k = i
    · subst hk
      rw [if_pos rfl, if_pos rfl, h.s, h.w _ hi]
    · rw [if_neg hk, if_neg hk, h.s]
  · simp only [Dev.write, hx, hit_word, h.f]
theorem Is.fl {d : Dev} {n : Nat} {W : Nat → List Int} {S : Nat → Option (List Int)} {F : Nat → Bool} (h : Is d n W S F) {i m : Nat} (hi : i + m ≤ n) :
    Is (d.step (.fl (8 * i) (8 * m))) n W S (fun k => F k || (decide (i ≤ k ∧ k < i + m) && (S k).isSome)) := by
  have hl := h.len
  have e : d.step (.fl (8 * i) (8 * m)) = d.flush (8 * i) (8 * m) := if_pos (by omega)
  rw [e]
  refine ⟨hl, h.w, h.s, fun k => ?_⟩
  simp only [Dev.flush, hit_words, h.s, h.f]
theorem Is.fe {d : Dev} {n : Nat} {W : Nat → List Int} {S : Nat → Option (List Int)} {F : Nat → Bool} (h : Is d n W S F) : Is (d.step .fe) n W (fun k => if F k then none else S k) (fun _ => false) :=
  ⟨h.len, h.w, fun k => by simp only [Dev.step, Dev.fence, h.f, h.s], fun k => rfl⟩
theorem Is.crash {d : Dev} {n : Nat} {W : Nat → List Int} {S : Nat → Option (List Int)} {F : Nat → Bool} (h : Is d n W S F) (hok : d.Ok) (keep : List Int) :
    Is (d.crash keep) n (fun k => match S k with | some c => if (k : Int) ∈ keep then W k else c | none => W k) (fun _ => none) (fun _ => false) := by
  have hl := h.len
  refine ⟨(crash_length hok keep).trans hl, fun k hk => ?_, fun k => rfl, fun k => rfl⟩
  have : word (d.crash keep).B k = d.lossW keep k := word_mapW (fun j hj => hok.lossW keep hj) (by omega)
  rw [this, Dev.lossW, h.s, h.w k hk]
  cases S k <;> rfl
def Cln (d : Dev) (n : Nat) (W : Nat → List Int) : Prop := Is d n W (fun _ => none) (fun _ => false)
def newW (i0 : Nat) (X : List Int) (j : Nat) (W : Nat → List Int) (k : Nat) : List Int := if i0 ≤ k ∧ k < i0 + j then cut X (8 * (k - i0)) 8 else W k
def newS (i0 j : Nat) (W : Nat → List Int) (k : Nat) : Option (List Int) := if i0 ≤ k ∧ k < i0 + j then some (W k) else none
theorem Is.wrs {d : Dev} {n i0 j : Nat} {W : Nat → List Int} {X : List Int} (h : Cln d n W) (hi : i0 + j ≤ n) (hX : 8 * j ≤ X.length) :
    Is (d.steps (wrsN (8 * i0) X j)) n (newW i0 X j W) (newS i0 j W) (fun _ => false) := by
  induction j with
  | zero =>
    refine (show Is d n W (fun _ => none) (fun _ => false) from h).congr (fun k _ => ?_) (fun k => ?_) (fun _ => rfl)
    · rw [newW, if_neg (by omega)]
    · rw [newS, if_neg (by omega)]
  | succ j ih =>
    rw [wrsN_succ, Dev.steps_snoc, show 8 * i0 + 8 * j = 8 * (i0 + j) by omega]
    refine ((ih (by omega) (by omega)).wr (i := i0 + j) (by omega) (cut_length (by omega))).congr (fun k _ => ?_) (fun k => ?_) (fun k => ?_)
    · by_cases hk : k = i0 + j
      · rw [if_pos hk, newW, if_pos (by omega)]
        congr 1
        omega
      · rw [if_neg hk, newW, newW]
        by_cases h2 : i0 ≤ k ∧ k < i0 + j
        · rw [if_pos h2, if_pos (by omega)]
        · rw [if_neg h2, if_neg (by omega)]
    · by_cases hk : k = i0 + j
      · rw [if_pos hk, newS, newS, if_neg (by omega), if_pos (by omega), newW, if_neg (by omega)]
        rfl
      · rw [if_neg hk, newS, newS]
        by_cases h2 : i0 ≤ k ∧ k < i0 + j
        · rw [if_pos h2, if_pos (by omega)]
        · rw [if_neg h2, if_neg (by omega)]
    · rfl
theorem Is.cut {d : Dev} {n : Nat} {W : Nat → List Int} {S : Nat → Option (List Int)} {F : Nat → Bool} (h : Is d n W S F) {a m : Nat} (ha : a + m ≤ n) : Hand.cut d.B (8 * a) (8 * m) = mapW W a m := by
  have hl := h.len
  rw [← mapW_word (by omega)]
  exact mapW_congr (fun j _ hj => h.w j (by omega))
end Go.Proofs.YtbfogcckbhkciaaGreat.Hand
namespace Go.Proofs.YtbfogcckbhkciaaGreat.Hand
set_option linter.unusedVariables false
set_option linter.unusedSimpArgs false
open Go.RowKit Go.Maps Go.Proofs.YtbfogcckbhkciaaGreatW.PrintWords
set_option linter.unusedVariables false
set_option linter.unusedSimpArgs false
def putW (W : Nat → List Int) (i : Nat) (x : List Int) (k : Nat) : List Int := if k = i then x else W k
def setW (W : Nat → List Int) (l : List SetT) : Nat → List Int := l.foldl (fun W s => putW W s.1.toNat (leB s.2 8)) W
theorem setW_snoc (W : Nat → List Int) (l : List SetT) (s : SetT) : setW W (l ++ [s]) = putW (setW W l) s.1.toNat (leB s.2 8) := by simp [setW, List.foldl_append]
def hitS (l : List SetT) (k : Nat) : Bool := l.any fun s => decide (s.1.toNat = k)
theorem hitS_snoc (l : List SetT) (s : SetT) (k : Nat) : hitS (l ++ [s]) k = (hitS l k || decide (s.1.toNat = k)) := by simp [hitS, List.any_append]
theorem setW_miss {W : Nat → List Int} {l : List SetT} {k : Nat} (h : hitS l k = false) : setW W l k = W k := by
  induction l generalizing W with
  | nil => rfl
  | cons s l ih =>
    simp only [hitS, List.any_cons, Bool.or_eq_false_iff, decide_eq_false_iff_not] at h
    have h2 : hitS l k = false := h.2
    rw [setW, List.foldl_cons]
    have := ih (W := putW W s.1.toNat (leB s.2 8)) h2
    rw [setW] at this
    rw [this, putW, if_neg (fun e => h.1 e.symm)]
theorem steps_app (d : Dev) (a b : List StepM) : d.steps (a ++ b) = (d.steps a).steps b := by simp [Dev.steps, List.foldl_append]
section
variable {d : Dev} {n : Nat} {W : Nat → List Int}
theorem Cln.one (h : Cln d n W) {i : Nat} {x : List Int} (hi : i < n) (hx : x.length = 8) : Cln (d.steps [.wr (8 * i) x, .fl (8 * i) (8 * 1), .fe]) n (putW W i x) := by
  have h1 := (show Is d n W (fun _ => none) (fun _ => false) from h).wr hi hx
  have h2 := Is.fl h1 (i := i) (m := 1) (by omega)
  have h3 := Is.fe h2
  refine Is.congr h3 (fun k _ => rfl) (fun k => ?_) (fun _ => rfl)
  by_cases hk : k = i
  · subst hk; simp
  · have : ¬ (i ≤ k ∧ k < i + 1) := by omega
    simp [hk, this]
theorem stepB_eq (a : Nat) (b : List Int) (j : Nat) : stepB a b j = wrsN (8 * (a + 1)) b j := by
  rw [stepB, wrsN]
  refine List.map_congr_left (fun i _ => ?_)
  rw [Nat.mul_add 8 (a + 1) i]
theorem Cln.body (h : Cln d n W) {a m : Nat} {b : List Int} (hm : b.length = 8 * m) (hi : a + 1 + m ≤ n) : Cln (d.steps (stepB a b m ++ [.fl (8 * (a + 1)) (8 * m), .fe])) n (newW (a + 1) b m W) := by
  rw [steps_app, stepB_eq]
  have h1 := Is.wrs h (i0 := a + 1) (j := m) (X := b) (by omega) (by omega)
  have h2 := Is.fl h1 (i := a + 1) (m := m) (by omega)
  have h3 := Is.fe h2
  refine Is.congr (d := ((d.steps (wrsN (8 * (a + 1)) b m)).step (.fl (8 * (a + 1)) (8 * m))).step .fe) h3 (fun k _ => rfl) (fun k => ?_) (fun _ => rfl)
  rw [newS]
  by_cases hk : a + 1 ≤ k ∧ k < a + 1 + m
  · simp [hk]
  · rw [if_neg hk]; simp
theorem Is.sets (h : Cln d n W) {l : List SetT} (hl : ∀ s ∈ l, s.1.toNat < n) : Is (d.steps (stepE l)) n (setW W l) (fun k => if hitS l k = true then some (W k) else none) (hitS l) := by
  suffices H : ∀ j, j ≤ l.length → Is (d.steps (stepE (l.take j))) n (setW W (l.take j)) (fun k => if hitS (l.take j) k = true then some (W k) else none) (hitS (l.take j)) by
    have := H l.length (Nat.le_refl _)
    rwa [List.take_of_length_le (Nat.le_refl _)] at this
  intro j
  induction j with
  | zero => intro _; exact (show Is d n W (fun _ => none) (fun _ => false) from h).congr (fun _ _ => rfl) (fun k => by simp [hitS]) (fun k => by simp [hitS])
  | succ j ih =>
    intro hj
    obtain ⟨s, hs⟩ : ∃ s, l[j]? = some s := ⟨_, List.getElem?_eq_getElem (by omega)⟩
    have hsn := hl s (List.mem_of_getElem? hs)
    have e : l.take (j + 1) = l.take j ++ [s] := by rw [List.take_add_one, hs]; rfl
    rw [stepE_take hs, steps_app, e]
    have h0 := ih (by omega)
    have h1 := h0.wr (i := s.1.toNat) (x := leB s.2 8) hsn (leB_length _ _)
    have h2 := Is.fl h1 (i := s.1.toNat) (m := 1) (by omega)
    have e2 : ∀ D : Dev, D.steps (stepS s) = (D.step (.wr (8 * s.1.toNat) (leB s.2 8))).step (.fl (8 * s.1.toNat) (8 * 1)) := fun D => by simp only [Dev.steps, stepS, List.foldl_cons, List.foldl_nil]
    rw [e2]
    refine Is.congr h2 (fun k _ => ?_) (fun k => ?_) (fun k => ?_)
    · rw [setW_snoc]; rfl
    · rw [hitS_snoc]
      by_cases hk : k = s.1.toNat
      · subst hk
        simp only [if_true]
        by_cases ht : hitS (l.take j) s.1.toNat = true
        · simp [ht]
        · have ht' : hitS (l.take j) s.1.toNat = false := by simpa using ht
          simp [ht', setW_miss ht']
      · have hk2 : ¬ s.1.toNat = k := fun e => hk e.symm
        simp [hk, hk2]
    · rw [hitS_snoc]
      by_cases hk : k = s.1.toNat
      · subst hk
        simp
      · have hk2 : ¬ s.1.toNat = k := fun e => hk e.symm
        have : ¬ (s.1.toNat ≤ k ∧ k < s.1.toNat + 1) := by omega
        simp [hk, hk2, this]
theorem Cln.sets (h : Cln d n W) {l : List SetT} (hl : ∀ s ∈ l, s.1.toNat < n) : Cln (d.steps (stepE l ++ [.fe])) n (setW W l) := by
  rw [steps_app]
  refine Is.congr (d := (d.steps (stepE l)).step .fe) (Is.fe (Is.sets h hl)) (fun _ _ => rfl) (fun k => ?_) (fun _ => rfl)
  cases hitS l k <;> rfl
def recW (a nx : Nat) (sets : List SetT) (W : Nat → List Int) : Nat → List Int := putW (newW (a + 1) (bodyL sets) (2 * sets.length) (putW W a zeros8)) a (headL sets.length nx (bodyL sets))
theorem walM_eq (a nx : Nat) (sets : List SetT) : walM a nx sets = [.wr (8 * a) zeros8, .fl (8 * a) (8 * 1), .fe] ++ (stepB a (bodyL sets) (2 * sets.length) ++ [.fl (8 * (a + 1)) (8 * (2 * sets.length)), .fe]) ++ [.wr (8 * a) (headL sets.length nx (bodyL sets)), .fl (8 * a) (8 * 1), .fe] ++ (stepE sets ++ [.fe]) := by
  have hl : (bodyL sets).length / 8 = 2 * sets.length := by rw [bodyL_length]; omega
  rw [walM, walS, hl, stepA, stepC]
  simp only [List.append_assoc, List.cons_append, List.nil_append]
theorem Cln.wal (h : Cln d n W) {a nx : Nat} {sets : List SetT} (hi : a + 1 + 2 * sets.length ≤ n) (hl : ∀ s ∈ sets, s.1.toNat < n) : Cln (d.steps (walM a nx sets)) n (setW (recW a nx sets W) sets) := by
  have e4 : ∀ (x y z u : List StepM), d.steps (x ++ y ++ z ++ u) = (((d.steps x).steps y).steps z).steps u := fun x y z u => by rw [steps_app d (x ++ y ++ z) u, steps_app d (x ++ y) z, steps_app d x y]
  rw [walM_eq, e4, recW]
  have h1 := h.one (i := a) (x := zeros8) (by omega) rfl
  have h2 := h1.body (a := a) (m := 2 * sets.length) (b := bodyL sets) (by rw [bodyL_length]; omega) (by omega)
  have h3 := h2.one (i := a) (x := headL sets.length nx (bodyL sets)) (by omega) (headL_length _ _ _)
  exact h3.sets hl
end
end Go.Proofs.YtbfogcckbhkciaaGreat.Hand
namespace Go.Proofs.YtbfogcckbhkciaaGreat.Hand
set_option linter.unusedVariables false
set_option linter.unusedSimpArgs false
open Go.RowKit Go.Maps Go.Proofs.YtbfogcckbhkciaaGreatW.PrintWords
set_option linter.unusedVariables false
set_option linter.unusedSimpArgs false
theorem cut_left {x y : List Int} {a m : Nat} (h : a + m ≤ x.length) : cut (x ++ y) a m = cut x a m := by
  rw [cut, cut, List.drop_append_of_le_length (by omega), List.take_append_of_le_length (by rw [List.length_drop]; omega)]
theorem cut_right {x y : List Int} {a m : Nat} (h : x.length ≤ a) : cut (x ++ y) a m = cut y (a - x.length) m := by
  rw [cut, cut, List.drop_append, List.drop_of_length_le h, List.nil_append]
theorem cut_mapW {g : Nat → List Int} : ∀ {k a i : Nat}, (∀ j, a ≤ j → j < a + k → (g j).length = 8) → i < k → cut (mapW g a k) (8 * i) 8 = g (a + i)
  | k + 1, a, 0, h, _ => by
    have h8 := h a (by omega) (by omega)
    rw [mapW, cut_left (by omega), cut]
    simp [List.take_of_length_le (Nat.le_of_eq h8)]
  | k + 1, a, i + 1, h, hi => by
    have h8 := h a (by omega) (by omega)
    rw [mapW, cut_right (by omega), h8, show 8 * (i + 1) - 8 = 8 * i by omega, cut_mapW (fun j h1 h2 => h j (by omega) (by omega)) (by omega)]
    congr 1
    omega
theorem mapW_head {g : Nat → List Int} {a k : Nat} (hk : 1 ≤ k) (h8 : (g a).length = 8) : ∃ y, mapW g a k = g a ++ y := by
  obtain ⟨k, rfl⟩ : ∃ j, k = j + 1 := ⟨k - 1, by omega⟩
  exact ⟨_, rfl⟩
theorem body_cut : ∀ {sets : List SetT} {j : Nat} {s : SetT}, sets[j]? = some s → cut (bodyL sets) (16 * j) 8 = leB s.1 8 ∧ cut (bodyL sets) (16 * j + 8) 8 = leB s.2 8
  | x :: l, 0, s, h => by
    obtain rfl : x = s := by simpa using h
    have e : bodyL (x :: l) = leB x.1 8 ++ (leB x.2 8 ++ bodyL l) := by simp [bodyL]
    have h1 := leB_length x.1 8
    have h2 := leB_length x.2 8
    refine ⟨?_, ?_⟩
    · rw [e, cut_left (by omega), cut]
      simp [List.take_of_length_le (Nat.le_of_eq h1)]
    · rw [e, cut_right (by omega), h1, cut_left (by omega), cut]
      simp [List.take_of_length_le (Nat.le_of_eq h2)]
  | x :: l, j + 1, s, h => by
    have hj : l[j]? = some s := by simpa using h
    obtain ⟨i1, i2⟩ := body_cut hj
    have e : bodyL (x :: l) = (leB x.1 8 ++ leB x.2 8) ++ bodyL l := by simp [bodyL]
    have h1 : (leB x.1 8 ++ leB x.2 8).length = 16 := by rw [List.length_append, leB_length, leB_length]
    refine ⟨?_, ?_⟩
    · rw [e, cut_right (by omega), h1, show 16 * (j + 1) - 16 = 16 * j by omega, i1]
    · rw [e, cut_right (by omega), h1, show 16 * (j + 1) + 8 - 16 = 16 * j + 8 by omega, i2]
theorem numL_of {n : Int} {k : Nat} (h0 : 0 ≤ n) (h1 : n < 2 ^ (8 * k)) : numL (leB n k) = n := by rw [numL_leBq]; exact Int.emod_eq_of_lt h0 h1
theorem head_cut (m q : Int) (l : List Int) : cut (headL m q l) 0 2 = leB m 2 ∧ cut (headL m q l) 2 4 = leB q 4 := by
  have h1 := leB_length m 2
  have h2 := leB_length q 4
  rw [headL, hd6]
  refine ⟨?_, ?_⟩
  · rw [List.append_assoc, cut_left (by omega), cut]
    simp [List.take_of_length_le (Nat.le_of_eq h1)]
  · rw [List.append_assoc, cut_right (by omega), h1, cut_left (by omega), cut]
    simp [List.take_of_length_le (Nat.le_of_eq h2)]
section
variable {n a k : Nat} {W : Nat → List Int}
theorem rec_none (hk : 1 ≤ k) (h : W a = zeros8) : recB n a k (mapW W a k) = (0, []) := by
  obtain ⟨y, hy⟩ := mapW_head (g := W) (a := a) hk (by rw [h]; rfl)
  rw [recB, if_pos]
  refine .inl ?_
  rw [hy, h, manyB, cut_left (by decide)]
  decide
theorem rec_is (hk : 1 ≤ k) (hn : n ≤ 8192) (hW : ∀ j, a ≤ j → j < a + k → (W j).length = 8) {sets : List SetT} {seq : Int} (h0 : 0 < sets.length) (h1 : sets.length ≤ (k - 1) / 2) (hk2 : k ≤ 8192) (s0 : 1 ≤ seq) (s1 : seq < 4294967296)
    (hs : ∀ s ∈ sets, OkSt n a k s) (hh : W a = headL sets.length seq (bodyL sets)) (hb : ∀ i, i < 2 * sets.length → W (a + 1 + i) = cut (bodyL sets) (8 * i) 8) : recB n a k (mapW W a k) = (seq, sets) := by
  have h8 : (W a).length = 8 := hW a (by omega) (by omega)
  obtain ⟨y, hy⟩ := mapW_head (g := W) (a := a) hk h8
  obtain ⟨c1, c2⟩ := head_cut sets.length seq (bodyL sets)
  have em : manyB (mapW W a k) = (sets.length : Int) := by
    rw [manyB, hy, cut_left (by omega), hh, c1, numL_of (by omega) (by omega)]
  have es : seqB (mapW W a k) = seq := by
    rw [seqB, hy, cut_left (by omega), hh, c2, numL_of (by omega) (by omega)]
  have et : setsB (mapW W a k) sets.length = sets := by
    apply List.ext_getElem?
    intro j
    by_cases hj : j < sets.length
    · obtain ⟨s, hsj⟩ : ∃ s, sets[j]? = some s := ⟨_, List.getElem?_eq_getElem hj⟩
      have ho := hs s (List.mem_of_getElem? hsj)
      have hr := may_range ho.may
      obtain ⟨b1, b2⟩ := body_cut hsj
      rw [hsj, setsB, List.getElem?_map, List.getElem?_range hj, Option.map_some, Option.some.injEq]
      have e1 : atB (mapW W a k) j = s.1 := by
        rw [atB, show 8 + 16 * j = 8 * (1 + 2 * j) by omega, cut_mapW hW (by omega), show a + (1 + 2 * j) = a + 1 + 2 * j by omega, hb _ (by omega), show 8 * (2 * j) = 16 * j by omega, b1, numL_of hr.1 (by omega)]
      have e2 : nB (mapW W a k) j = s.2 := by
        rw [nB, show 16 + 16 * j = 8 * (2 + 2 * j) by omega, cut_mapW hW (by omega), show a + (2 + 2 * j) = a + 1 + (2 * j + 1) by omega, hb _ (by omega), show 8 * (2 * j + 1) = 16 * j + 8 by omega, b2, numL_of ho.n0 ho.n1]
      rw [e1, e2]
    · rw [List.getElem?_eq_none (by rw [setsB_length]; omega), List.getElem?_eq_none (by omega)]
  have hB : ¬ BadH k (mapW W a k) := by
    rw [BadH, em, es]
    omega
  have hA : ∀ j, j < (manyB (mapW W a k)).toNat → okB n a k (atB (mapW W a k) j) = true := by
    intro j hj
    rw [em, Int.toNat_natCast] at hj
    have hm : (atB (mapW W a k) j, nB (mapW W a k) j) ∈ setsB (mapW W a k) sets.length := List.mem_map.2 ⟨j, List.mem_range.2 hj, rfl⟩
    rw [et] at hm
    have ho := hs _ hm
    have hr := may_range ho.may
    simp only at hr
    rw [okB, ho.may, decide_eq_true (by omega)]
    rfl
  have hT : headL (sets.length : Int) seq (bodyL sets) = (mapW W a k).take 8 := by
    rw [hy, List.take_append_of_le_length (by omega), List.take_of_length_le (by omega), hh]
  rw [recB_all hB hA, em, es, Int.toNat_natCast, et, if_pos hT]
end
end Go.Proofs.YtbfogcckbhkciaaGreat.Hand
namespace Go.Proofs.YtbfogcckbhkciaaGreat.Hand
set_option linter.unusedVariables false
set_option linter.unusedSimpArgs false
open Go.RowKit Go.Maps Go.Proofs.YtbfogcckbhkciaaGreatW.PrintWords
set_option linter.unusedVariables false
set_option linter.unusedSimpArgs false
section
variable {d : Dev} {n a k nx : Nat} {W : Nat → List Int} {S : Nat → Option (List Int)} {F : Nat → Bool} {sets : List SetT}
theorem recD_is (h : Is d n W S F) (hak : a + k ≤ n) : recD d a k = recB n a k (mapW W a k) := by
  rw [recD, h.cut hak, h.len, show 8 * n / 8 = n by omega]
theorem is_len8 (h : Is d n W S F) {j : Nat} (hj : j < n) : (W j).length = 8 := by
  rw [← h.w j hj]
  exact word_length (by rw [h.len]; omega)
theorem hit_no (hs : ∀ s ∈ sets, mayB n a k s.1 = true) {j : Nat} (h1 : a ≤ j) (h2 : j < a + k) : hitS sets j = false := by
  rw [hitS, List.any_eq_false]
  intro s hm
  have := hs s hm
  simp only [mayB, decide_eq_true_eq] at this
  simp only [decide_eq_true_eq]
  omega
theorem may_nat (hs : ∀ s ∈ sets, mayB n a k s.1 = true) : ∀ s ∈ sets, s.1.toNat < n := by
  intro s hm
  have := may_range (hs s hm)
  omega
theorem wal_rec (h : Cln d n W) (hn : n ≤ 8192) (h1 : 1 ≤ k) (hak : a + k ≤ n) (he : errW n a k nx sets = 0) (hw : ∀ s ∈ sets, WfSt s) (hnx : 1 ≤ nx) :
    recD (d.steps (walM a nx sets)) a k = ((nx : Int), sets) ∧ Cln (d.steps (walM a nx sets)) n (setW (recW a nx sets W) sets) := by
  obtain ⟨hall, h0, hr, hq⟩ := errW_ok he
  have hc := h.wal (a := a) (nx := nx) (sets := sets) (by omega) (may_nat hall)
  refine ⟨?_, hc⟩
  rw [recD_is hc hak]
  refine rec_is h1 hn (fun j _ hj => is_len8 hc (by omega)) h0 hr (by omega) (by omega) (by omega) (fun s hs => ⟨hall s hs, (hw s hs).2.2.1, (hw s hs).2.2.2⟩) ?_ (fun i hi => ?_)
  · rw [setW_miss (hit_no hall (Nat.le_refl _) (by omega)), recW, putW, if_pos rfl]
  · rw [setW_miss (hit_no hall (by omega) (by omega)), recW, putW, if_neg (by omega), newW, if_pos (by omega), show a + 1 + i - (a + 1) = i by omega]
theorem setsD_eq (d : Dev) (l : List SetT) : setsD d l = d.steps (stepE l) := by
  induction l generalizing d with
  | nil => rfl
  | cons s l ih =>
    have e : stepE (s :: l) = stepS s ++ stepE l := by simp [stepE]
    have e2 : d.steps (stepS s) = setD d s := by simp only [setD, Dev.steps, stepS, List.foldl_cons, List.foldl_nil]
    rw [e, steps_app, e2, ← ih, setsD, List.foldl_cons, setsD]
theorem recover_cln (h : Cln d n W) {q : Int} (hr : recD d a k = (q, sets)) (hq : 0 < q) (hl : ∀ s ∈ sets, s.1.toNat < n) : Cln (recoverD d a k) n (setW W sets) := by
  have hc := h.sets hl
  rw [steps_app, ← setsD_eq] at hc
  rw [recoverD, hr, if_pos hq]
  exact hc
theorem Cln.crash (h : Cln d n W) (hok : d.Ok) (keep : List Int) : Cln (d.crash keep) n W := (Is.crash h hok keep).congr (fun _ _ => rfl) (fun _ => rfl) (fun _ => rfl)
end
theorem zeros_wordW (n k : Nat) (h : k < n) : word (List.replicate (8 * n) 0) k = List.replicate 8 0 := by
  rw [word, cut, List.drop_replicate, List.take_replicate]
  congr 1
  omega
theorem zerosW_cln (n : Nat) : Cln (Dev.of (List.replicate (8 * n) 0)) n (fun _ => zeros8) :=
  ⟨by simp [Dev.of], fun k hk => zeros_wordW n k hk, fun _ => rfl, fun _ => rfl⟩
theorem zerosW_rec {n a k : Nat} (h1 : 1 ≤ k) (hak : a + k ≤ n) : recD (Dev.of (List.replicate (8 * n) 0)) a k = (0, []) := by
  rw [recD_is (zerosW_cln n) hak]
  exact rec_none h1 rfl
def alS : List SetT := [(7, 5)]
theorem alS_wf : ∀ s ∈ alS, WfSt s := by simp [alS, WfSt]
theorem alS_err : errW 8 0 5 1 alS = 0 := by decide
def al0 : Dev := Dev.of (List.replicate 64 0)
theorem al0_cln : Cln al0 8 (fun _ => zeros8) := zerosW_cln 8
def al1 : Dev := al0.steps (walM 0 1 alS)
theorem al1_is : recD al1 0 5 = (1, alS) ∧ Cln al1 8 (setW (recW 0 1 alS (fun _ => zeros8)) alS) := wal_rec al0_cln (by decide) (by decide) (by decide) alS_err alS_wf (by decide)
section
variable {w : World} {p : Nat} {v : Value} {s f : Nat} {d : Dev}
theorem al_lit (w : World) : SetK.C (w.alloc (.cells #[.int .i64 7, .int .u64 5] 66)) (some ⟨w.heap.size, 0, none⟩) 1 alS := by
  refine ⟨rfl, by decide, fun _ => ⟨_, rfl, fun j x hx => ?_⟩⟩
  obtain rfl : j = 0 := by
    have := (List.getElem?_eq_some_iff.1 hx).1
    simpa [alS] using this
  obtain rfl : x = (7, 5) := by simpa [alS] using hx.symm
  refine ⟨encSt (7, 5), rfl, rfl, fun i u hu => ?_⟩
  rw [add_plain]
  refine blk_cell (heap_alloc_new w _) ?_
  simpa [encSt] using hu
theorem al_open (h : HasD w p v s f al0) : Calls Tryz.prog 6 #[.pointer (some ⟨p, 0, none⟩), .int .i64 0, .int .i64 5] w fun e w' => ∃ (q : Nat), e = .returned (.tuple #[.pointer (some ⟨q, 0, none⟩), .int .i64 0]) ∧ HasL w' q p 0 5 1 ∧ w.heap.size ≤ q ∧ Below w.heap.size w w' := by
  have hl : al0.B.length / 8 = 8 := by rw [al0_cln.len]
  have := open4_good w p v s f al0 0 5 h (by decide) (by rw [hl]; decide)
  have hr : recD al0 0 5 = (0, []) := zerosW_rec (n := 8) (by decide) (by decide)
  rw [hr] at this
  exact this
theorem al_commit {q : Nat} (h : HasD w p v s f al0) (hl : HasL w q p 0 5 1) (hq : ¬ OwnD v s f q) {g : Nat} (hs : SetK.C w (some ⟨g, 0, none⟩) 1 alS) :
    Calls Tryz.prog 21 #[.pointer (some ⟨q, 0, none⟩), .slice (some ⟨g, 0, none⟩) 1 1] w fun e w' => e = .returned (.int .i64 0) ∧ HasD w' p v s f al1 ∧ HasL w' q p 0 5 2 ∧ Fr (fun b => OwnD v s f b ∨ b = q) w w' := by
  have h8 : al0.B.length / 8 = 8 := by rw [al0_cln.len]
  exact commit_good w q p v s f al0 0 5 1 (some ⟨g, 0, none⟩) 1 alS h hl hq (by decide) (by rw [h8]; decide) hs alS_wf (by rw [h8]; exact alS_err)
theorem al_crash (h : HasD w p v s f al1) : Calls Tryz.prog 22 #[.pointer (some ⟨p, 0, none⟩), .slice none 0 0] w fun e w' => e = .returned (.tuple #[]) ∧ HasD w' p v s f (al1.crash []) ∧ Fr (OwnD v s f) w w' :=
  crash_calls w p v s f al1 none 0 [] h ⟨rfl, by decide, fun h => absurd h (by decide)⟩ (fun h => absurd h (by decide))
theorem al_recover (h : HasD w p v s f (al1.crash [])) (hok : al1.Ok) : Calls Tryz.prog 23 #[.pointer (some ⟨p, 0, none⟩), .int .i64 0, .int .i64 5] w fun e w' => e = .returned (.tuple #[.int .i64 1, .int .i64 0]) ∧ HasD w' p v s f (recoverD (al1.crash []) 0 5) ∧ Fr (OwnD v s f) w w' := by
  have hc := al1_is.2.crash hok []
  have h8 : (al1.crash []).B.length / 8 = 8 := by rw [hc.len]
  have hr : recD (al1.crash []) 0 5 = (1, alS) := by rw [recD_is hc (by decide), ← recD_is al1_is.2 (by decide), al1_is.1]
  refine (recover4_good w p v s f (al1.crash []) 0 5 h (by decide) (by rw [h8]; decide)).mono (fun e w' he => ?_)
  obtain ⟨e1, e2, e3⟩ := he
  rw [hr] at e1
  exact ⟨e1, e2, e3⟩
theorem al_last (hok : al1.Ok) : Cln (recoverD (al1.crash []) 0 5) 8 (setW (setW (recW 0 1 alS (fun _ => zeros8)) alS) alS) := by
  have hc := al1_is.2.crash hok []
  have hr : recD (al1.crash []) 0 5 = (1, alS) := by rw [recD_is hc (by decide), ← recD_is al1_is.2 (by decide), al1_is.1]
  exact recover_cln hc hr (by decide) (by simp [alS])
theorem al_read (hok : al1.Ok) (h : HasD w p v s f (recoverD (al1.crash []) 0 5)) : Calls Tryz.prog 24 #[.pointer (some ⟨p, 0, none⟩), .int .i64 56, .int .i64 8] w fun e w' => ∃ g c, e = .returned (.tuple #[.slice (some ⟨g, 0, none⟩) 8 c, .int .i64 0]) ∧ w'.cell? ⟨g, 0, none⟩ = some (.int .u8 5) ∧ Below w.heap.size w w' := by
  have hc := al_last hok
  refine (read_good w p v s f _ 56 8 h (by rw [hc.len]; decide)).mono ?_
  rintro e w' ⟨u, rfl, hu, hb⟩
  have e8 : cut (recoverD (al1.crash []) 0 5).B 56 8 = leB 5 8 := by
    have := hc.w 7 (by decide)
    rw [word] at this
    rw [this]
    rfl
  rw [e8] at hu
  obtain ⟨g, c, rfl, _, hr, _⟩ := row_form hu (by rw [leB_length]; decide)
  have hl := leB_length 5 8
  rw [hl]
  rw [hl] at hr
  obtain ⟨ad, e, hx⟩ := hr.2.2 (by decide)
  obtain rfl := Option.some.inj e
  have := hx 0 (by decide)
  exact ⟨g, c, rfl, this, hb⟩
end
set_option maxRecDepth 100000 in
theorem wal_alive (w : World) : Calls Tryz.prog 5 #[] w fun e w' => e = .returned (.bool true) ∧ Below w.heap.size w w' := by
  have HN := Aside0.mk (show Calls Tryz.prog 20 #[.int .i64 8] w (NewDev w (List.replicate 64 0)) from new_calls w 8 (by omega))
  go_enter Tryz.func5, Tryz.ntmps5
  go_wp2_with (first | (go_at_call 20; ((with_reducible refine HN.out.mono ?_); rintro e w1 ⟨p, v, s, f, rfl, hd1, hp1, hv1, hb1⟩; have HD1 := Aside0.mk (show HasD w1 p v s f al0 from hd1); have HV := Aside0.mk hv1; have HB1 := Aside0.mk hb1; clear hd1 hp1 hv1 hb1)) | (go_at_call 6; ((with_reducible refine (al_open HD1.out).mono ?_); rintro e w2 ⟨q, rfl, hl, hq, hb⟩; have HL2 := Aside0.mk hl; have HQ2 := Aside0.mk (not_own_ge HD1.out hq); have HQW := Aside0.mk (Nat.le_trans HB1.out.size hq); have HD2 := Aside0.mk (HD1.out.move hb); have HB2 := Aside0.mk (bel_step HB1.out hb); clear hl hq hb)) | (go_at_call 9; ((with_reducible refine (room4_calls _ q p 0 5 1 HL2.out (by decide) (by decide)).mono ?_); rintro e w3 ⟨rfl, rfl⟩)) | (go_at_call 21; ((with_reducible refine (al_commit (HD2.out.move (below_alloc (Below.refl _ _) _)) (HL2.out.below (below_alloc (Below.refl _ _) _)) HQ2.out (al_lit w2)).mono ?_); rintro e w4 ⟨rfl, hd, hl, hf⟩; have HD4 := Aside0.mk hd; have HL4 := Aside0.mk hl; have HB4 := Aside0.mk ((below_alloc HB2.out _).trans (hf.below _ (below_alloc HB2.out _).size (fun b hb => hb.elim (fun h => HV.out b h) (fun h => h ▸ HQW.out)))); have HOK := Aside0.mk hd.ok; clear hd hl hf)) | (go_at_call 22; ((with_reducible refine (al_crash HD4.out).mono ?_); rintro e w5 ⟨rfl, hd, hf⟩; have HD5 := Aside0.mk hd; have HL5 := Aside0.mk (HL4.out.fr hf HQ2.out); have HB5 := Aside0.mk (HB4.out.trans (hf.below _ HB4.out.size (fun b hb => HV.out b hb))); clear hd hf)) | (go_at_call 23; ((with_reducible refine (al_recover HD5.out HOK.out).mono ?_); rintro e w6 ⟨rfl, hd, hf⟩; have HD6 := Aside0.mk hd; have HL6 := Aside0.mk (HL5.out.fr hf HQ2.out); have HB6 := Aside0.mk (HB5.out.trans (hf.below _ HB5.out.size (fun b hb => HV.out b hb))); clear hd hf)) | (go_at_call 24; ((with_reducible refine (al_read HOK.out HD6.out).mono ?_); rintro e w7 ⟨g7, c7, rfl, hc7, hb⟩; have HL7 := Aside0.mk (HL6.out.below hb); have HB7 := Aside0.mk (bel_step HB6.out hb); clear hb)) | (go_at_call 11; ((with_reducible refine (seq4_calls _ q p 0 5 2 HL7.out).mono ?_); rintro e w8 ⟨rfl, rfl⟩)))
  go_ret
  exact ⟨rfl, HB7.out⟩
end Go.Proofs.YtbfogcckbhkciaaGreat.Hand
namespace Go.Proofs.YtbfogcckbhkciaaGreat.Hand
set_option linter.unusedVariables false
set_option linter.unusedSimpArgs false
open Go.RowKit Go.Maps Go.Proofs.YtbfogcckbhkciaaGreatW.PrintWords Go.Proofs.YtbfogcckbhkciaaGreatW.PrintLast Go.Proofs.YtbfogcckbhkciaaGreat.PHandRP
set_option linter.unusedVariables false
set_option linter.unusedSimpArgs false
theorem rput8 (W : World) {x : Int} (h0 : 0 ≤ x) (h1 : x < 18446744073709551616) : Calls Tryz.prog 37 #[.int .i64 8, .int .u64 x] W fun e w' => e = .returned (.string (strOfNums (leB x 8))) ∧ Below W.heap.size W w' :=
  rPut_yes 8 x W (by simp only [rfitsB, Bool.and_eq_true, decide_eq_true_eq]; exact ⟨by decide, by rw [show topN 8 = 18446744073709551615 from rfl]; omega⟩) h0
theorem rput2 (W : World) {x : Int} (h0 : 0 ≤ x) (h1 : x < 65536) : Calls Tryz.prog 37 #[.int .i64 2, .int .u64 x] W fun e w' => e = .returned (.string (strOfNums (leB x 2))) ∧ Below W.heap.size W w' :=
  rPut_yes 2 x W (by simp only [rfitsB, Bool.and_eq_true, decide_eq_true_eq]; exact ⟨by decide, by rw [show topN 2 = 65535 from rfl]; omega⟩) h0
theorem rput4 (W : World) {x : Int} (h0 : 0 ≤ x) (h1 : x < 4294967296) : Calls Tryz.prog 37 #[.int .i64 4, .int .u64 x] W fun e w' => e = .returned (.string (strOfNums (leB x 4))) ∧ Below W.heap.size W w' :=
  rPut_yes 4 x W (by simp only [rfitsB, Bool.and_eq_true, decide_eq_true_eq]; exact ⟨by decide, by rw [show topN 4 = 4294967295 from rfl]; omega⟩) h0
theorem cat_fits {a b : List Int} (h : a.length + b.length ≤ 9223372036854775807) : (9223372036854775807 < (strOfNums a).size + (strOfNums b).size) = False := eq_false (by rw [strOfNums_size, strOfNums_size]; omega)
set_option maxRecDepth 100000 in
set_option maxHeartbeats 2000000 in
theorem rbody_calls (w : World) (A : Option Addr) (c : Nat) (sets : List SetT) (h : SetK.C w A sets.length sets) (hp : ∀ s ∈ sets, PosSt s) (hl : sets.length ≤ 100000) :
    Calls Tryz.prog 59 #[.slice A sets.length c] w fun e w' => e = .returned (.string (strOfNums (bodyL sets))) ∧ Below w.heap.size w w' := by
  have HC := Aside0.mk h
  have HP := Aside0.mk hp
  clear h hp
  go_enter Tryz.func59, Tryz.ntmps59
  go_wp2
  go_loopw [3, 4] (fun u i wr => ∃ t : Nat, t ≤ sets.length ∧ i = .int .i64 (t : Int) ∧ u = .string (strOfNums (bodyL (sets.take t))) ∧ Aside0 (Below w.heap.size w wr)) (fun _ i _ => (sets.length - intOf i).toNat)
  case atStart => exact ⟨0, Nat.zero_le _, rfl, rfl, ⟨Below.refl _ _⟩⟩
  case round =>
    obtain ⟨t, ht, rfl, rfl, HB⟩ := hrel
    by_cases hlt : t < sets.length
    · obtain ⟨x, hx⟩ : ∃ x, sets[t]? = some x := ⟨_, List.getElem?_eq_getElem hlt⟩
      obtain ⟨bb, ob, hA, hcb⟩ := C_at (Kd.C_below HC.out HB.out) (by decide) hx
      have HTK := Aside0.mk (show bodyL (sets.take (t + 1)) = bodyL (sets.take t) ++ leB x.1 8 ++ leB x.2 8 by rw [List.take_add_one, hx, Option.toList_some, bodyL_snoc])
      have hpx := HP.out x (List.mem_of_getElem? hx)
      have hbl : (bodyL (sets.take t)).length ≤ 1600000 := by rw [bodyL_length, List.length_take]; omega
      obtain ⟨x, y⟩ := x
      have b0 : wr.cell? ⟨bb, ob + t * 2, none⟩ = some (.int .i64 x) := hcb 0 (by decide)
      have b1 : wr.cell? ⟨bb, ob + t * 2 + 1, none⟩ = some (.int .u64 y) := hcb 1 (by decide)
      obtain ⟨p0, p1, p2, p3⟩ := hpx
      have HPX := Aside0.mk (fun (W : World) => rput8 W (x := x) p0 (by show x < _; omega))
      have HPY := Aside0.mk (fun (W : World) => rput8 W (x := y) p2 p3)
      have EW := Aside0.mk (show IntKind.u64.wrap x = x from u64_wrap_of p0 (by show x < _; omega))
      obtain ⟨L, hL⟩ : ∃ L, L = bodyL (sets.take t) := ⟨_, rfl⟩
      rw [← hL] at HTK hbl ⊢
      have f1 := cat_fits (a := L) (b := leB x 8) (by rw [leB_length]; omega)
      have f2 := cat_fits (a := L ++ leB x 8) (b := leB y 8) (by rw [List.length_append, leB_length, leB_length]; omega)
      subst hA
      clear hcb hx hL p0 p1 p2 p3
      go_wp2
      refine start_ (n := 17) (S := fun w' => w'.cell? ⟨bb, ob + t * 2, none⟩ = some (.int .i64 x) ∧ w'.cell? ⟨bb, ob + t * 2 + 1, none⟩ = some (.int .u64 y)) (ds := []) #[false, false, false, false, false, false, false, false, false, false, false, false, false, false, false, false, false] (by kernel_rfl) rfl rfl ⟨b0, b1⟩ (fun hHeld => ?_)
      refine pure_ (i := 0) (N := some 11) (v := ?_) (a' := ?_) #[true, false, false, false, false, false, false, false, false, false, false, false, false, false, false, false, false] rfl rfl (by kernel_rfl) (fun _ _ _ h => h) (Or.inl ⟨by rfl, ?_⟩) ?_ ?_
      rotate_left
      · intro w'
        go_simp
        with_reducible rfl
      rotate_left
      · simp only [Act.put, List.setIfInBounds_toArray, List.set_cons_zero, List.set_cons_succ, i64_w, i32_w]
        rfl
      refine pure_ (i := 1) (N := some 12) (v := ?_) (a' := ?_) #[true, true, false, false, false, false, false, false, false, false, false, false, false, false, false, false, false] rfl rfl (by kernel_rfl) (fun _ _ _ h => h) (Or.inl ⟨by rfl, ?_⟩) ?_ ?_
      rotate_left
      · intro w'
        go_simp
        with_reducible rfl
      rotate_left
      · simp only [Act.put, List.setIfInBounds_toArray, List.set_cons_zero, List.set_cons_succ, i64_w, i32_w]
        rfl
      refine pure_ (i := 2) (N := some 13) (v := ?_) (a' := ?_) #[true, true, true, false, false, false, false, false, false, false, false, false, false, false, false, false, false] rfl rfl (by kernel_rfl) (fun _ _ _ h => h) (Or.inl ⟨by rfl, ?_⟩) ?_ ?_
      rotate_left
      · intro w'
        go_simp
        with_reducible rfl
      rotate_left
      · simp only [Act.put, List.setIfInBounds_toArray, List.set_cons_zero, List.set_cons_succ, i64_w, i32_w]
        rfl
      refine pure_ (i := 3) (N := some 14) (v := ?_) (a' := ?_) #[true, true, true, true, false, false, false, false, false, false, false, false, false, false, false, false, false] rfl rfl (by kernel_rfl) (fun _ _ _ h => h) (Or.inl ⟨by rfl, ?_⟩) ?_ ?_
      rotate_left
      · intro w'
        go_simp
        with_reducible rfl
      rotate_left
      · simp only [Act.put, List.setIfInBounds_toArray, List.set_cons_zero, List.set_cons_succ, i64_w, i32_w]
        rfl
      refine pure_ (i := 4) (N := some 15) (v := ?_) (a' := ?_) #[true, true, true, true, true, false, false, false, false, false, false, false, false, false, false, false, false] rfl rfl (by kernel_rfl) (fun _ _ _ h => h) (Or.inl ⟨by rfl, ?_⟩) ?_ ?_
      rotate_left
      · intro w'
        go_simp
        with_reducible rfl
      rotate_left
      · simp only [Act.put, List.setIfInBounds_toArray, List.set_cons_zero, List.set_cons_succ, i64_w, i32_w]
        rfl
      refine pure_ (i := 9) (N := some 20) (v := ?_) (a' := ?_) #[true, true, true, true, true, false, false, false, false, true, false, false, false, false, false, false, false] rfl rfl (by kernel_rfl) (fun _ _ _ h => h) (Or.inl ⟨by rfl, ?_⟩) ?_ ?_
      rotate_left
      · intro w'
        go_simp
        with_reducible rfl
      rotate_left
      · simp only [Act.put, List.setIfInBounds_toArray, List.set_cons_zero, List.set_cons_succ, i64_w, i32_w]
        rfl
      refine pure_ (i := 10) (N := some 21) (v := ?_) (a' := ?_) #[true, true, true, true, true, false, false, false, false, true, true, false, false, false, false, false, false] rfl rfl (by kernel_rfl) (fun _ _ _ h => h) (Or.inl ⟨by rfl, ?_⟩) ?_ ?_
      rotate_left
      · intro w'
        go_simp
        with_reducible rfl
      rotate_left
      · simp only [Act.put, List.setIfInBounds_toArray, List.set_cons_zero, List.set_cons_succ, i64_w, i32_w]
        rfl
      refine pure_ (i := 11) (N := some 22) (v := ?_) (a' := ?_) #[true, true, true, true, true, false, false, false, false, true, true, true, false, false, false, false, false] rfl rfl (by kernel_rfl) (fun _ _ _ h => h) (Or.inl ⟨by rfl, ?_⟩) ?_ ?_
      rotate_left
      · intro w'
        go_simp
        with_reducible rfl
      rotate_left
      · simp only [Act.put, List.setIfInBounds_toArray, List.set_cons_zero, List.set_cons_succ, i64_w, i32_w]
        rfl
      refine pure_ (i := 12) (N := some 23) (v := ?_) (a' := ?_) #[true, true, true, true, true, false, false, false, false, true, true, true, true, false, false, false, false] rfl rfl (by kernel_rfl) (fun _ _ _ h => h) (Or.inl ⟨by rfl, ?_⟩) ?_ ?_
      rotate_left
      · intro w'
        go_simp
        with_reducible rfl
      rotate_left
      · simp only [Act.put, List.setIfInBounds_toArray, List.set_cons_zero, List.set_cons_succ, i64_w, i32_w]
        rfl
      refine take_ (i := 5) (N := some 16) (v := ?_) (a' := ?_) #[true, true, true, true, true, true, false, false, false, true, true, true, true, false, false, false, false] rfl rfl (by kernel_rfl) (fun _ _ _ h => h) (Or.inl ⟨by rfl, ?_⟩) hHeld ?_ ?_
      rotate_left
      · rintro w' ⟨s0, s1⟩
        go_simp
        with_reducible rfl
      rotate_left
      · simp only [Act.put, List.setIfInBounds_toArray, List.set_cons_zero, List.set_cons_succ, i64_w, i32_w]
        rfl
      refine pure_ (i := 6) (N := some 17) (v := ?_) (a' := ?_) #[true, true, true, true, true, true, true, false, false, true, true, true, true, false, false, false, false] rfl rfl (by kernel_rfl) (fun _ _ _ h => h) (Or.inl ⟨by rfl, ?_⟩) ?_ ?_
      rotate_left
      · intro w'
        go_simp
        rw [EW.out]
        try with_reducible rfl
      rotate_left
      · simp only [Act.put, List.setIfInBounds_toArray, List.set_cons_zero, List.set_cons_succ, i64_w, i32_w]
        rfl
      refine take_ (i := 13) (N := some 24) (v := ?_) (a' := ?_) #[true, true, true, true, true, true, true, false, false, true, true, true, true, true, false, false, false] rfl rfl (by kernel_rfl) (fun _ _ _ h => h) (Or.inl ⟨by rfl, ?_⟩) hHeld ?_ ?_
      rotate_left
      · rintro w' ⟨s0, s1⟩
        go_simp
        with_reducible rfl
      rotate_left
      · simp only [Act.put, List.setIfInBounds_toArray, List.set_cons_zero, List.set_cons_succ, i64_w, i32_w]
        rfl
      refine one_ (i := 7) (N := some 18) #[true, true, true, true, true, true, true, true, false, true, true, true, true, true, false, false, false] rfl rfl (by kernel_rfl) (by decide) (fun K hK => ?_)
      refine goes_ Tryz.func37 (by kernel_rfl) rfl #[.int .i64 8, .int .u64 x] (by rfl) rfl rfl (by simp only [List.map_toArray, List.map_cons, List.map_nil]; rfl) ?_
      with_reducible refine (HPX.out wr.drew).mono ?_
      rintro e w5 ⟨rfl, hb5⟩
      refine ⟨_, rfl, ?_⟩
      have HB5 := Aside0.mk hb5
      have i0 := bel_cell hb5 hHeld.1
      have i1 := bel_cell hb5 hHeld.2
      clear hb5
      refine hK.out _ _ ⟨i0, i1⟩ (fun hHeld => ?_)
      clear hK K
      refine norm_ (a' := ?_) ?_ ?_
      rotate_left
      · show Act.put _ (some 18) _ = _
        simp only [Act.put, List.setIfInBounds_toArray, List.set_cons_zero, List.set_cons_succ, i64_w, i32_w]
        rfl
      refine pure_ (i := 8) (N := some 19) (v := ?_) (a' := ?_) #[true, true, true, true, true, true, true, true, true, true, true, true, true, true, false, false, false] rfl rfl (by kernel_rfl) (fun _ _ _ h => h) (Or.inl ⟨by rfl, ?_⟩) ?_ ?_
      rotate_left
      · intro w'
        go_simp
        rw [str_app]
        try with_reducible rfl
      rotate_left
      · simp only [Act.put, List.setIfInBounds_toArray, List.set_cons_zero, List.set_cons_succ, i64_w, i32_w]
        rfl
      refine one_ (i := 14) (N := some 25) #[true, true, true, true, true, true, true, true, true, true, true, true, true, true, true, false, false] rfl rfl (by kernel_rfl) (by decide) (fun K hK => ?_)
      refine goes_ Tryz.func37 (by kernel_rfl) rfl #[.int .i64 8, .int .u64 y] (by rfl) rfl rfl (by simp only [List.map_toArray, List.map_cons, List.map_nil]; rfl) ?_
      with_reducible refine (HPY.out w5).mono ?_
      rintro e w6 ⟨rfl, hb6⟩
      refine ⟨_, rfl, ?_⟩
      have HB6 := Aside0.mk (bel_step HB5.out hb6)
      have j0 := bel_cell hb6 i0
      have j1 := bel_cell hb6 i1
      clear hb6
      refine hK.out _ _ ⟨j0, j1⟩ (fun hHeld => ?_)
      clear hK K
      refine norm_ (a' := ?_) ?_ ?_
      rotate_left
      · show Act.put _ (some 25) _ = _
        simp only [Act.put, List.setIfInBounds_toArray, List.set_cons_zero, List.set_cons_succ, i64_w, i32_w]
        rfl
      refine pure_ (i := 15) (N := some 26) (v := ?_) (a' := ?_) #[true, true, true, true, true, true, true, true, true, true, true, true, true, true, true, true, false] rfl rfl (by kernel_rfl) (fun _ _ _ h => h) (Or.inl ⟨by rfl, ?_⟩) ?_ ?_
      rotate_left
      · intro w'
        go_simp
        rw [str_app]
        try with_reducible rfl
      rotate_left
      · simp only [Act.put, List.setIfInBounds_toArray, List.set_cons_zero, List.set_cons_succ, i64_w, i32_w]
        rfl
      refine pure_ (i := 16) (N := some 3) (v := ?_) (a' := ?_) #[true, true, true, true, true, true, true, true, true, true, true, true, true, true, true, true, true] rfl rfl (by kernel_rfl) (fun _ _ _ h => h) (Or.inl ⟨by rfl, ?_⟩) ?_ ?_
      rotate_left
      · intro w'
        go_simp
        with_reducible rfl
      rotate_left
      · simp only [Act.put, List.setIfInBounds_toArray, List.set_cons_zero, List.set_cons_succ, i64_w, i32_w]
        rfl
      refine done_ (by kernel_rfl) ?_
      go_wp2
      refine ⟨⟨t + 1, by omega, by go_num, by rw [HTK.out, List.append_assoc], ⟨bel_step HB.out.drew HB6.out⟩⟩, by simp [intOf]; omega⟩
    · obtain rfl : t = sets.length := by omega
      go_wp2
      go_ret
      exact ⟨by rw [List.take_of_length_le (Nat.le_refl _)]; rfl, HB.out⟩
set_option maxRecDepth 100000 in
set_option maxHeartbeats 2000000 in
theorem rrecord_calls (w : World) (A : Option Addr) (c : Nat) (sets : List SetT) (q : Int) (h : SetK.C w A sets.length sets) (hp : ∀ s ∈ sets, PosSt s) (hl : sets.length < 65536) (hq0 : 0 ≤ q) (hq : q < 4294967296) :
    Calls Tryz.prog 30 #[.int .i64 q, .slice A sets.length c] w fun e w' => e = .returned (.string (strOfNums (headL sets.length q (bodyL sets) ++ bodyL sets))) ∧ Below w.heap.size w w' := by
  have HC := Aside0.mk h
  have HBO := Aside0.mk (fun (W : World) (hW : Below w.heap.size w W) => rbody_calls W A c sets (Kd.C_below h hW) hp (by omega))
  have hbl : (bodyL sets).length ≤ 1600000 := by rw [bodyL_length]; omega
  have hcr := tI_lt (crcV 0#16 (hd6 sets.length q ++ bodyL sets))
  have HPN := Aside0.mk (fun (W : World) => rput2 W (x := (sets.length : Int)) (by omega) (by omega))
  have HPQ := Aside0.mk (fun (W : World) => rput4 W (x := q) hq0 hq)
  have HPC := Aside0.mk (fun (W : World) => rput2 W (x := crcI (hd6 sets.length q ++ bodyL sets)) hcr.1 hcr.2)
  have HMR := Aside0.mk (fun (W : World) => show Calls Tryz.prog 58 #[.int .i64 0, .string (strOfNums (hd6 sets.length q ++ bodyL sets))] W (fun e w' => e = .returned (.int .i64 (crcI (hd6 sets.length q ++ bodyL sets))) ∧ W = w') from by
    have hby : Bys (hd6 sets.length q ++ bodyL sets) := by
      intro x hx
      rcases List.mem_append.1 hx with hx | hx
      · rcases List.mem_append.1 hx with hx | hx
        · exact leB_bysq _ _ x hx
        · exact leB_bysq _ _ x hx
      · exact bodyL_bys _ x hx
    have := rMore_calls 0 (strOfNums (hd6 sets.length q ++ bodyL sets)) (by rw [strOfNums_size, List.length_append, hd6_length]; omega) W
    rw [bytes_str hby] at this
    exact this)
  have EN := u64_wrap_of (x := (sets.length : Int)) (by omega) (by omega)
  have EQ := u64_wrap_of (x := q) hq0 (by omega)
  have EC := u64_wrap_of (x := crcI (hd6 sets.length q ++ bodyL sets)) hcr.1 (by have := hcr.2; show tI _ < _; omega)
  have HH := Aside0.mk (show headL sets.length q (bodyL sets) = leB (sets.length : Int) 2 ++ leB q 4 ++ leB (crcI (hd6 sets.length q ++ bodyL sets)) 2 from rfl)
  have HD6 := Aside0.mk (show leB (sets.length : Int) 2 ++ leB q 4 ++ bodyL sets = hd6 sets.length q ++ bodyL sets from rfl)
  rw [HH.out]
  obtain ⟨C, hC⟩ : ∃ C, C = crcI (hd6 sets.length q ++ bodyL sets) := ⟨_, rfl⟩
  rw [← hC] at HPC HMR EC ⊢
  obtain ⟨L, hL⟩ : ∃ L, L = bodyL sets := ⟨_, rfl⟩
  rw [← hL] at HBO HMR HD6 hbl ⊢
  have z1 : (strOfNums (leB (sets.length : Int) 2)).size ≤ 2 := by rw [strOfNums_size, leB_length]; exact Nat.le_refl _
  have z2 : (strOfNums (leB q 4)).size ≤ 4 := by rw [strOfNums_size, leB_length]; exact Nat.le_refl _
  have z3 : (strOfNums L).size ≤ 1600000 := by rw [strOfNums_size]; exact hbl
  have z4 : (strOfNums (leB C 2)).size ≤ 2 := by rw [strOfNums_size, leB_length]; exact Nat.le_refl _
  have z5 : (strOfNums (leB (sets.length : Int) 2 ++ leB q 4)).size ≤ 6 := by rw [strOfNums_size, List.length_append, leB_length, leB_length]; exact Nat.le_refl _
  have z6 : (strOfNums (leB (sets.length : Int) 2 ++ leB q 4 ++ leB C 2)).size ≤ 8 := by rw [strOfNums_size, List.length_append, List.length_append, leB_length, leB_length, leB_length]; exact Nat.le_refl _
  clear h hp hcr hC hL HH
  go_enter Tryz.func30, Tryz.ntmps30
  go_wp2_with (first | (go_at_call 37; (first | ((with_reducible refine (HPN.out _).mono ?_); rintro e w1 ⟨rfl, hb⟩; have HB1 := Aside0.mk hb; clear hb) | ((with_reducible refine (HPQ.out _).mono ?_); rintro e w2 ⟨rfl, hb⟩; have HB2 := Aside0.mk (bel_step HB1.out hb); clear hb) | ((with_reducible refine (HPC.out _).mono ?_); rintro e w5 ⟨rfl, hb⟩; have HB5 := Aside0.mk (bel_step HB3.out hb); clear hb))) | (go_at_call 59; (first | ((with_reducible refine (HBO.out _ HB5.out).mono ?_); rintro e w6 ⟨rfl, hb⟩; have HB6 := Aside0.mk (bel_step HB5.out hb); clear hb) | ((with_reducible refine (HBO.out _ HB2.out).mono ?_); rintro e w3 ⟨rfl, hb⟩; have HB3 := Aside0.mk (bel_step HB2.out hb); clear hb))) | (go_at_call 58; (simp only [str_app]; rw [HD6.out]); ((with_reducible refine (HMR.out _).mono ?_); rintro e w4 ⟨rfl, rfl⟩)))
  go_ret
  exact ⟨by simp only [str_app, List.append_assoc]; rfl, HB6.out⟩
theorem rroom_calls (w : World) (a k : Int) (hk : 1 ≤ k ∧ k ≤ 8192) : Calls Tryz.prog 10 #[.agg #[.int .i64 a, .int .i64 k]] w fun e w' => e = .returned (.int .i64 ((k - 1) / 2)) ∧ Below w.heap.size w w' := by
  obtain ⟨h1, h2⟩ := hk
  have e1 : IntKind.i64.wrap (k - 1) = k - 1 := IntWalk.i64_in _ (by omega)
  have e2 : Int.tdiv (k - 1) 2 = (k - 1) / 2 := Int.tdiv_eq_ediv_of_nonneg (by omega)
  go_enter Tryz.func10, Tryz.ntmps10
  go_wp2
  go_ret
  exact ⟨rfl, below_alloc (Below.refl _ _) _⟩
theorem rinside_calls (w : World) (A : Option Addr) (n c : Nat) (a k : Int) (hn : n ≤ 8192) (ha : -9223372036854775808 ≤ a ∧ a ≤ 9223372036854775807) (hk : -9223372036854775808 ≤ k ∧ k ≤ 9223372036854775807) :
    Calls Tryz.prog 7 #[.slice A n c, .agg #[.int .i64 a, .int .i64 k]] w fun e w' => e = .returned (.int .i64 (inR n a k)) ∧ Below w.heap.size w w' := by
  have HR := Aside0.mk (show inR n a k = if k < 1 then 1 else if a < 0 then 30 else if (n : Int) < a then 30 else if (n : Int) - a < k then 30 else 0 from by
    unfold inR
    repeat' split
    all_goals first | rfl | (exfalso; omega))
  rw [HR.out]
  obtain ⟨ha0, ha1⟩ := ha
  obtain ⟨hk0, hk1⟩ := hk
  rcases (show k < 1 ∨ (¬ k < 1 ∧ a < 0) ∨ (¬ k < 1 ∧ ¬ a < 0 ∧ (n : Int) < a) ∨ (¬ k < 1 ∧ ¬ a < 0 ∧ ¬ (n : Int) < a ∧ (n : Int) - a < k) ∨ (¬ k < 1 ∧ ¬ a < 0 ∧ ¬ (n : Int) < a ∧ ¬ (n : Int) - a < k) by omega) with z1 | ⟨z1, z2⟩ | ⟨z1, z2, z3⟩ | ⟨z1, z2, z3, z4⟩ | ⟨z1, z2, z3, z4⟩
  · rw [if_pos z1]
    go_enter Tryz.func7, Tryz.ntmps7
    go_wp2
    go_ret
    exact ⟨rfl, below_alloc (Below.refl _ _) _⟩
  · rw [if_neg z1, if_pos z2]
    go_enter Tryz.func7, Tryz.ntmps7
    go_wp2
    go_ret
    exact ⟨rfl, below_alloc (Below.refl _ _) _⟩
  · rw [if_neg z1, if_neg z2, if_pos z3]
    go_enter Tryz.func7, Tryz.ntmps7
    go_wp2
    go_ret
    exact ⟨rfl, below_alloc (Below.refl _ _) _⟩
  · have e1 : IntKind.i64.wrap ((n : Int) - a) = n - a := IntWalk.i64_in _ (by omega)
    rw [if_neg z1, if_neg z2, if_neg z3, if_pos z4]
    go_enter Tryz.func7, Tryz.ntmps7
    go_wp2
    go_ret
    exact ⟨rfl, below_alloc (Below.refl _ _) _⟩
  · have e1 : IntKind.i64.wrap ((n : Int) - a) = n - a := IntWalk.i64_in _ (by omega)
    rw [if_neg z1, if_neg z2, if_neg z3, if_neg z4]
    go_enter Tryz.func7, Tryz.ntmps7
    go_wp2
    go_ret
    exact ⟨rfl, below_alloc (Below.refl _ _) _⟩
theorem rmay_calls (w : World) (A : Option Addr) (n c a k : Nat) (x y : Int) (hn : n ≤ 8192) (hak : a + k ≤ 8192) :
    Calls Tryz.prog 29 #[.slice A n c, .agg #[.int .i64 a, .int .i64 k], .agg #[.int .i64 x, .int .u64 y]] w fun e w' => e = .returned (.bool (mayB n a k x)) ∧ Below w.heap.size w w' := by
  have e1 : IntKind.i64.wrap ((a : Int) + k) = a + k := IntWalk.i64_in _ (by omega)
  rcases (show x < 0 ∨ (¬ x < 0 ∧ ¬ x < n) ∨ (¬ x < 0 ∧ x < n ∧ x < a) ∨ (¬ x < 0 ∧ x < n ∧ ¬ x < a ∧ x < (a : Int) + k) ∨ (¬ x < 0 ∧ x < n ∧ ¬ x < a ∧ ¬ x < (a : Int) + k) by omega) with z1 | ⟨z1, z2⟩ | ⟨z1, z2, z3⟩ | ⟨z1, z2, z3, z4⟩ | ⟨z1, z2, z3, z4⟩
  · have HE := Aside0.mk (show mayB n a k x = false from by rw [mayB]; exact decide_eq_false (by omega))
    rw [HE.out]
    go_enter Tryz.func29, Tryz.ntmps29
    go_wp2
    go_ret
    exact ⟨rfl, below_alloc (below_alloc (Below.refl _ _) _) _⟩
  · have HE := Aside0.mk (show mayB n a k x = false from by rw [mayB]; exact decide_eq_false (by omega))
    rw [HE.out]
    go_enter Tryz.func29, Tryz.ntmps29
    go_wp2
    go_ret
    exact ⟨rfl, below_alloc (below_alloc (Below.refl _ _) _) _⟩
  · have HE := Aside0.mk (show mayB n a k x = true from by rw [mayB]; exact decide_eq_true (by omega))
    rw [HE.out]
    go_enter Tryz.func29, Tryz.ntmps29
    go_wp2
    go_ret
    exact ⟨rfl, below_alloc (below_alloc (Below.refl _ _) _) _⟩
  · have HE := Aside0.mk (show mayB n a k x = false from by rw [mayB]; exact decide_eq_false (by omega))
    rw [HE.out]
    have d4 : decide ((a : Int) + k ≤ x) = false := decide_eq_false (by omega)
    go_enter Tryz.func29, Tryz.ntmps29
    go_wp2
    go_ret
    exact ⟨rfl, below_alloc (below_alloc (Below.refl _ _) _) _⟩
  · have HE := Aside0.mk (show mayB n a k x = true from by rw [mayB]; exact decide_eq_true (by omega))
    rw [HE.out]
    have d4 : decide ((a : Int) + k ≤ x) = true := decide_eq_true (by omega)
    go_enter Tryz.func29, Tryz.ntmps29
    go_wp2
    go_ret
    exact ⟨rfl, below_alloc (below_alloc (Below.refl _ _) _) _⟩
end Go.Proofs.YtbfogcckbhkciaaGreat.Hand
