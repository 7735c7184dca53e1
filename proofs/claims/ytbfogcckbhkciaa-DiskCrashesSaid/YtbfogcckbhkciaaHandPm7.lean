/- Copy, Of and New of a device. -/
import Derived.Test.YtbfogcckbhkciaaHandPm6
namespace Go.Proofs.Ytbfogcckbhkciaa.Hand
open Go.RowKit Go.Maps Go.Proofs.YtbfogcckbhkciaaW.PrintWords
set_option linter.unusedVariables false

theorem bel_cell {w w1 : World} (h : Below w.heap.size w w1) {a : Addr} {v : Value} (hc : w.cell? a = some v) : w1.cell? a = some v := (h.cell (World.block_lt_of_cell? _ _ hc)).trans hc
theorem info_dev : (Try.prog.info? 113).map (fun i => i.size) = some 3 := by kernel_rfl
set_option maxRecDepth 100000 in
theorem copy_calls (w : World) (p : Nat) (v : Value) (s f : Nat) (d : Dev) (h : HasD w p v s f d) :
    Calls Try.prog 29 #[.pointer (some ⟨p, 0, none⟩)] w fun e w' => ∃ (q : Nat) (u : Value) (s' f' : Nat), e = .returned (.pointer (some ⟨q, 0, none⟩)) ∧ HasD w' q u s' f' d ∧ w.heap.size ≤ q ∧ (∀ b, OwnD u s' f' b → w.heap.size ≤ b) ∧ Below w.heap.size w w' := by
  have HH := Aside0.mk h
  obtain ⟨A, c, rfl, hc, hr⟩ := h.reads
  have HR := Aside0.mk (show ReadsInt w.drew .u8 A d.B.length d.B from hr)
  have hm := h.ok.max
  have HSd := Aside0.mk (h.move (Below.refl w.heap.size w).drew)
  have b0 : w.cell? ⟨p, 0, none⟩ = some (.slice A d.B.length c) := blk_cell h.ptr (i := 0) rfl
  have b1 : w.cell? ⟨p, 1, none⟩ = some (.map (some s)) := blk_cell h.ptr (i := 1) rfl
  have b2 : w.cell? ⟨p, 2, none⟩ = some (.map (some f)) := blk_cell h.ptr (i := 2) rfl
  have b0d : w.drew.cell? ⟨p, 0, none⟩ = some (.slice A d.B.length c) := b0
  have b1d : w.drew.cell? ⟨p, 1, none⟩ = some (.map (some s)) := b1
  have b2d : w.drew.cell? ⟨p, 2, none⟩ = some (.map (some f)) := b2
  clear h hr
  go_enter Try.func29, Try.ntmps29
  go_wp2_with fail
  go_region_held (fun w' => w'.cell? ⟨p, 0, none⟩ = some (.slice A d.B.length c) ∧ w'.cell? ⟨p, 1, none⟩ = some (.map (some s)) ∧ w'.cell? ⟨p, 2, none⟩ = some (.map (some f))) (go_keep) (first | (go_at_call 61; (with_reducible refine (clone_bytes A c d.B w.drew HR.out (by omega)).mono ?_); rintro e w2 ⟨u, rfl, hu, hb2⟩; obtain ⟨A2, c2, rfl, _, _⟩ := reads_own2 hu; have HU2 := Aside0.mk hu; have HB2 := Aside0.mk (bel_step (Below.refl w.heap.size w).drew hb2); have HS2 := Aside0.mk (HSd.out.move hb2); have e0 := bel_cell hb2 b0d; have e1 := bel_cell hb2 b1d; have e2 := bel_cell hb2 b2d; clear hu hb2) | (go_at_call 70; (with_reducible refine (cloneS_calls w2 s d.S HS2.out.safe).mono ?_); rintro e w3 ⟨rfl, hm3, hb3⟩; have HM3 := Aside0.mk hm3; have HB3 := Aside0.mk hb3; have HS3 := Aside0.mk (HS2.out.move hb3); have i0 := bel_cell hb3 e0; have i1 := bel_cell hb3 e1; have i2 := bel_cell hb3 e2; clear hm3 hb3) | (go_at_call 71; (with_reducible refine (cloneF_calls w3 f d.F HS3.out.fl).mono ?_); rintro e w4 ⟨rfl, hm4, hb4⟩; have HM4 := Aside0.mk hm4; have HB4 := Aside0.mk hb4; have j0 := bel_cell hb4 i0; have j1 := bel_cell hb4 i1; have j2 := bel_cell hb4 i2; clear hm4 hb4))
  go_wp2
  go_ret
  have hb4a := below_alloc (Below.refl w4.heap.size w4) (.cells #[Value.slice A2 d.B.length c2, Value.map (some w2.heap.size), Value.map (some w3.heap.size)] 113)
  have hz23 : w2.heap.size < w3.heap.size := HM3.out.lt
  have hz34 : w3.heap.size < w4.heap.size := HM4.out.lt
  have hu4 := Kd.R_below (Kd.R_below (Kd.R_below HU2.out HB3.out) HB4.out) hb4a
  have hul : ∀ b, some b = (Value.slice A2 d.B.length c2).ownBlock → w.heap.size ≤ b ∧ b < w2.heap.size := fun b hb => by
    obtain ⟨cs, t, fr, hc⟩ := own_blk HU2.out hb
    refine ⟨?_, blk_lt hc⟩
    have := Kd.own_of_R HU2.out
    rcases this.2 with ⟨e, _⟩ | ⟨g, cap', cur, e, hbase, _⟩
    · rw [e] at hb; simp [Value.ownBlock] at hb
    · rw [e] at hb
      simp only [Value.ownBlock, Option.some.injEq] at hb
      rw [hb]
      exact hbase
  refine ⟨w4.heap.size, _, w2.heap.size, w3.heap.size, rfl, ⟨heap_alloc_new _ _, ?_, (HM3.out.below HB4.out).below hb4a, HM4.out.below hb4a, by omega, HH.out.ok⟩, ?_, ?_, ?_⟩
  · refine Kd.R_of_own (ownsRow_base_a (Kd.own_of_R hu4) (Nat.zero_le _)) (fun k hk => ?_)
    have := (hul k hk.symm).2
    omega
  · have := HB2.out.size
    omega
  · have := HB2.out.size
    rintro b (hb | rfl | rfl)
    · exact (hul b hb).1
    · omega
    · omega
  · exact bel_step (bel_step (bel_step HB2.out HB3.out) HB4.out) hb4a
/-- A new device: nothing is loose. -/
def Dev.of (B : List Int) : Dev := { B := B, S := fun _ => none, F := fun _ => false }
theorem Dev.Ok.of {B : List Int} (h1 : B.length % 8 = 0) (h2 : B.length ≤ 65536) (h3 : Bys B) : (Dev.of B).Ok := ⟨h1, h2, h3, fun k h => (by cases h), fun k c h => (by cases h), fun k h => (by cases h)⟩
theorem safeF_none (kl : Lit) : safeF (fun _ => none) kl = none := by
  unfold safeF
  split
  · split <;> rfl
  · rfl
theorem flF_none (kl : Lit) : flF (fun _ => false) kl = none := by
  unfold flF
  split
  · simp
  · rfl
/-- What New and Of leave: a device of these bytes. -/
def NewDev (w : World) (B : List Int) (e : Ending) (w' : World) : Prop :=
  ∃ (q : Nat) (u : Value) (s f : Nat), e = .returned (.tuple #[.pointer (some ⟨q, 0, none⟩), .int .i64 0]) ∧ HasD w' q u s f (Dev.of B) ∧ w.heap.size ≤ q ∧ (∀ b, OwnD u s f b → w.heap.size ≤ b) ∧ Below w.heap.size w w'
set_option maxRecDepth 100000 in
theorem of_calls (w : World) (A : Option Addr) (c : Nat) (B : List Int) (hr : ReadsInt w .u8 A B.length B) (hb : Bys B) (h1 : B.length % 8 = 0) (h2 : B.length ≤ 65536) :
    Calls Try.prog 69 #[.slice A B.length c] w (NewDev w B) := by
  have HR := Aside0.mk hr
  have HBY := Aside0.mk hb
  have H1 := Aside0.mk h1
  have h3 : ((B.length : Int) % 8 != 0) = false := by simp; omega
  have hmm := @run_makeMap Try.prog
  have HL := Aside0.mk h2
  clear hr hb h1
  go_enter Try.func69, Try.ntmps69
  go_wp2_with (at_builtin; refine Kd.R_append_row (Value.int .u8) 0 (h1 := fun _ => rfl) (w0 := w) w.heap.size rfl (.tmp 13) (.tmp 14) 23 5 (.int .u8 0) 1 rfl Try.underlying23 info_u8 rfl (by decide) (.slice (some ⟨w.heap.size, 0, none⟩) 0 0) [] B A B.length c (fun _ => True) rfl rfl (fun _ _ => trivial) ?c1 ?c2 ?c3 ?c4 ?c5 ?_)
  case c1 => exact Kd.R_of_own (World.ownsRow_made w #[] 0 (Nat.le_refl _) (Nat.zero_le _) rfl) (fun _ _ => trivial)
  case c2 => exact Kd.C_below (d := Kd.int .u8) (Kd.C_of_reads (d := (0 : Int)) (h1 := fun _ => rfl) HR.out) (below_alloc (Below.refl _ _) _)
  case c3 => exact below_alloc (Below.refl _ _) _
  case c4 => simp
  case c5 => have := HL.out; simp; omega
  intro v1 w1 ho hb1 hg1 hat
  have ho' : Kd.R (Kd.int .u8) 5 w1 w.heap.size (fun _ => True) v1 B := ho
  obtain ⟨A2, c2, rfl, _, _⟩ := reads_own2 ho'
  have HO := Aside0.mk ho'
  have HB1 := Aside0.mk hb1
  clear ho ho' hb1 hg1 hat h3
  go_wp2
  go_ret2
  have hba := ((Below.refl w1.heap.size w1).alloc (Nat.le_refl _) (.map #[] 0)).alloc (by simp) (.map #[] 0)
  have hbb : Below w1.heap.size w1 (((w1.alloc (.map #[] 0)).alloc (.map #[] 0)).alloc (.cells #[Value.slice A2 B.length c2, Value.map (some w1.heap.size), Value.map (some (w1.heap.size + 1))] 113)) := hba.alloc (by simp; omega) _
  have hul : ∀ b, some b = (Value.slice A2 B.length c2).ownBlock → w.heap.size ≤ b ∧ b < w1.heap.size := fun b hb => by
    obtain ⟨cs, t, fr, hc⟩ := own_blk HO.out hb
    refine ⟨?_, blk_lt hc⟩
    have := Kd.own_of_R HO.out
    rcases this.2 with ⟨e, _⟩ | ⟨g, cap', cur, e, hbase, _⟩
    · rw [e] at hb; simp [Value.ownBlock] at hb
    · rw [e] at hb
      simp only [Value.ownBlock, Option.some.injEq] at hb
      rw [hb]
      exact hbase
  have hsz := HB1.out.size
  refine ⟨w1.heap.size + 1 + 1, _, w1.heap.size, w1.heap.size + 1, ?_, ⟨alloc_three _ _ _ _, ?_, ?_, ?_, by omega, Dev.Ok.of H1.out HL.out HBY.out⟩, by omega, ?_, bel_step HB1.out hbb⟩
  · simp
  · refine Kd.R_of_own (ownsRow_base_a (Kd.own_of_R (Kd.R_below HO.out hbb)) (Nat.zero_le _)) (fun k hk => ?_)
    have := (hul k hk.symm).2
    omega
  · refine (((MapF.made w1).below (below_alloc (Below.refl _ _) _)).below (below_alloc (Below.refl _ _) _)).congr (fun kl => (safeF_none kl).symm)
  · have := MapF.made (P := Try.prog) (k := 3) (w1.alloc (.map #[] 0))
    rw [World.size_alloc] at this
    exact (this.below (below_alloc (Below.refl _ _) _)).congr (fun kl => (flF_none kl).symm)
  · rintro b (hb | rfl | rfl)
    · exact (hul b hb).1
    · omega
    · omega
theorem of_bad (w : World) (A : Option Addr) (n c : Nat) (h : n % 8 ≠ 0 ∨ 65536 < n) :
    Calls Try.prog 69 #[.slice A n c] w fun e w' => e = .returned (.tuple #[.pointer none, .int .i64 1]) ∧ Below w.heap.size w w' := by
  by_cases h1 : n % 8 = 0
  · have h2 : ((n : Int) % 8 != 0) = false := by simp; omega
    have h3 : 65536 < n := by omega
    clear h h1
    go_enter Try.func69, Try.ntmps69
    go_wp2
    go_ret2
    exact ⟨rfl, Below.refl _ _⟩
  · have h2 : ((n : Int) % 8 != 0) = true := by simp; omega
    clear h h1
    go_enter Try.func69, Try.ntmps69
    go_wp2
    go_ret2
    exact ⟨rfl, Below.refl _ _⟩
theorem new_bad (w : World) (n : Int) (h : n < 0 ∨ 8192 < n) :
    Calls Try.prog 27 #[.int .i64 n] w fun e w' => e = .returned (.tuple #[.pointer none, .int .i64 1]) ∧ Below w.heap.size w w' := by
  rcases h with h | h
  · go_enter Try.func27, Try.ntmps27
    go_wp2
    go_ret2
    exact ⟨rfl, Below.refl _ _⟩
  · go_enter Try.func27, Try.ntmps27
    go_wp2
    go_ret2
    exact ⟨rfl, Below.refl _ _⟩
theorem zeros_reads (w : World) (m : Nat) (hm : m ≤ 9223372036854775807) : ReadsInt (w.alloc (.cells (madeCells #[.int .u8 0] m) 5)) .u8 (some ⟨w.heap.size, 0, none⟩) m (List.replicate m 0) := by
  refine ⟨by simp, hm, fun _ => ⟨_, rfl, fun j hj => ?_⟩⟩
  rw [add_plain, Nat.zero_add]
  have hn := heap_alloc_new w (.cells (madeCells #[.int .u8 0] m) 5)
  refine blk_cell hn ?_
  rw [List.getD_eq_getElem?_getD, List.getElem?_replicate, if_pos hj]
  simp [madeCells, hj, Nat.mod_one]
theorem NewDev.from {w w1 : World} {B : List Int} {e : Ending} {w' : World} (h : NewDev w1 B e w') (hb : Below w.heap.size w w1) : NewDev w B e w' := by
  obtain ⟨q, u, s, f, he, hd, hq, ho, hb2⟩ := h
  exact ⟨q, u, s, f, he, hd, Nat.le_trans hb.size hq, fun b hb' => Nat.le_trans hb.size (ho b hb'), bel_step hb hb2⟩
theorem zeros_bys (m : Nat) : Bys (List.replicate m 0) := fun x hx => by
  rw [List.eq_of_mem_replicate hx]
  omega
set_option maxRecDepth 100000 in
theorem new_calls (w : World) (n : Nat) (h : n ≤ 8192) :
    Calls Try.prog 27 #[.int .i64 n] w (NewDev w (List.replicate (8 * n) 0)) := by
  have km := print_make_int (P := Try.prog) 23 5 (.int .u8 0) 1 Try.underlying23 info_u8 rfl (by decide) ((n : Int) * 8) (by omega) (by omega)
  rw [show ((n : Int) * 8).toNat = 8 * n by omega] at km
  have HZ := Aside0.mk (zeros_reads w (8 * n) (by omega))
  have HL := Aside0.mk (show (List.replicate (8 * n) (0 : Int)).length = 8 * n by simp)
  go_enter Try.func27, Try.ntmps27
  go_wp2_with (go_at_call 69; have hof := of_calls (w.alloc (.cells (madeCells #[.int .u8 0] (8 * n)) 5)) (some ⟨w.heap.size, 0, none⟩) (8 * n) (List.replicate (8 * n) 0) (by rw [HL.out]; exact HZ.out) (zeros_bys _) (by rw [HL.out]; omega) (by rw [HL.out]; omega); rw [HL.out] at hof; (with_reducible refine hof.mono ?_); intro e w2 hN; replace hN := hN.from (below_alloc (Below.refl w.heap.size w) _); obtain ⟨q, u, s, f, rfl, hN⟩ := hN; clear hof)
  go_ret2
  exact ⟨q, u, s, f, rfl, hN⟩
end Go.Proofs.Ytbfogcckbhkciaa.Hand
