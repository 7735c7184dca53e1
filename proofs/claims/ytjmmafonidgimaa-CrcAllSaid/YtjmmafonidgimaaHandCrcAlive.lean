/- The check that every law of layer 2 makes: a sum that the document fixes. -/
import Derived.Test.YtjmmafonidgimaaHandCrcFn
import Derived.Lib.SlBytesConst
namespace Go.Proofs.Ytjmmafonidgimaa.Hand
open Go.RowKit Go.Proofs.YtjmmafonidgimaaW.PrintWords

theorem openB_seal (m : List Int) : openB (sealL m) = true ∧ openL (sealL m) = m := by
  have h : (sealL m).take ((sealL m).length - 2) = m := by
    rw [sealL_length, Nat.add_sub_cancel, sealL, List.take_append_of_le_length (Nat.le_refl _), List.take_of_length_le (Nat.le_refl _)]
  have hb : openB (sealL m) = true := by
    rw [openB, h, decide_eq_true (by rw [sealL_length]; omega), decide_eq_true rfl]
    rfl
  exact ⟨hb, by rw [openL, hb, if_pos rfl, h]⟩
theorem reads_row (w : World) (l : List Int) (t : TypeId) (fr : Nat × Nat) (hl : l.length ≤ 9223372036854775807) : ReadsInt (w.alloc (.cells (l.map (Value.int .u8)).toArray t fr)) .u8 (some ⟨w.heap.size, 0, none⟩) l.length l := by
  refine ⟨rfl, hl, fun _ => ⟨_, rfl, fun j hj => ?_⟩⟩
  have h := heap_alloc_new w (.cells (l.map (Value.int .u8)).toArray t fr)
  have ha : (⟨w.heap.size, 0, none⟩ : Addr).add j = ⟨w.heap.size, j, none⟩ := by cases j <;> simp [Addr.add]
  rw [ha]
  simp only [World.cell?, h]
  simp [hj]
theorem alloc_two (w : World) (o1 o2 : Obj) : ((w.alloc o1).alloc o2).heap[w.heap.size + 1]? = some o2 := by
  have := heap_alloc_new (w.alloc o1) o2
  simpa [World.alloc_eq] using this
/-- The sum of bytes in parts, as the parts of a call lie in memory. -/
theorem sum_lit (ps : List Part) (g n : Nat) (w : World) (hg : w.heap[g]? = some (.cells (ps.map (fun p => Value.slice p.1 p.2.2.length p.2.1)).toArray 22 (0, 0)))
    (hr : ∀ p ∈ ps, ReadsInt w .u8 p.1 p.2.2.length p.2.2 ∧ p.2.2.length ≤ 140737488355328) (hl : ps.length ≤ 1000) :
    Calls Try.prog 13 #[.slice (some ⟨g, 0, none⟩) ps.length n] w fun e w' => e = .returned (.int .i64 (tI (sumV 0#16 ps))) ∧ Below w.heap.size w w' := by
  refine sum_calls ps ⟨g, 0, none⟩ n w (fun j h => ?_) (fun j h => hr _ (List.getElem_mem h)) hl
  have ha : (⟨g, 0, none⟩ : Addr).add j = ⟨g, j, none⟩ := by cases j <;> simp [Addr.add]
  rw [ha]
  simp only [World.cell?, hg]
  simp [h]
theorem sum_two (l : List Int) (A : Option Addr) (c : Nat) (m : List Int) (B : Option Addr) (d : Nat) (g n : Nat) (w : World) (hg : w.heap[g]? = some (.cells #[.slice A l.length c, .slice B m.length d] 22 (0, 0)))
    (hl : ReadsInt w .u8 A l.length l) (hm : ReadsInt w .u8 B m.length m) (h1 : l.length ≤ 140737488355328) (h2 : m.length ≤ 140737488355328) :
    Calls Try.prog 13 #[.slice (some ⟨g, 0, none⟩) 2 n] w fun e w' => e = .returned (.int .i64 (tI (crcV (crcV 0#16 l) m))) ∧ Below w.heap.size w w' :=
  sum_lit [(A, c, l), (B, d, m)] g n w hg (by
    intro p hp
    rw [List.mem_cons, List.mem_singleton] at hp
    rcases hp with rfl | rfl
    · exact ⟨hl, h1⟩
    · exact ⟨hm, h2⟩) (by simp)
theorem sum_three (l : List Int) (A : Option Addr) (c : Nat) (k : List Int) (D : Option Addr) (e : Nat) (m : List Int) (B : Option Addr) (d : Nat) (g n : Nat) (w : World) (hg : w.heap[g]? = some (.cells #[.slice A l.length c, .slice D k.length e, .slice B m.length d] 22 (0, 0)))
    (hl : ReadsInt w .u8 A l.length l) (hk : ReadsInt w .u8 D k.length k) (hm : ReadsInt w .u8 B m.length m) (h1 : l.length ≤ 140737488355328) (h3 : k.length ≤ 140737488355328) (h2 : m.length ≤ 140737488355328) :
    Calls Try.prog 13 #[.slice (some ⟨g, 0, none⟩) 3 n] w fun e w' => e = .returned (.int .i64 (tI (crcV (crcV (crcV 0#16 l) k) m))) ∧ Below w.heap.size w w' :=
  sum_lit [(A, c, l), (D, e, k), (B, d, m)] g n w hg (by
    intro p hp
    rw [List.mem_cons, List.mem_cons, List.mem_singleton] at hp
    rcases hp with rfl | rfl | rfl
    · exact ⟨hl, h1⟩
    · exact ⟨hk, h3⟩
    · exact ⟨hm, h2⟩) (by simp)
theorem sum_gap (l : List Int) (A : Option Addr) (c : Nat) (m : List Int) (B : Option Addr) (d : Nat) (g n : Nat) (w : World) (hg : w.heap[g]? = some (.cells #[.slice A l.length c, .slice none 0 0, .slice B m.length d] 22 (0, 0)))
    (hl : ReadsInt w .u8 A l.length l) (hm : ReadsInt w .u8 B m.length m) (h1 : l.length ≤ 140737488355328) (h2 : m.length ≤ 140737488355328) :
    Calls Try.prog 13 #[.slice (some ⟨g, 0, none⟩) 3 n] w fun e w' => e = .returned (.int .i64 (tI (crcV (crcV (crcV 0#16 l) []) m))) ∧ Below w.heap.size w w' :=
  sum_three l A c [] none 0 m B d g n w hg hl ⟨rfl, by decide, fun h => absurd h (by decide)⟩ hm h1 (by decide) h2
theorem sumV_append (ps : List Part) : sumV 0#16 ps = crcV 0#16 (ps.map (fun p => p.2.2)).flatten := by
  suffices h : ∀ x, sumV x ps = crcV x (ps.map (fun p => p.2.2)).flatten from h _
  induction ps with
  | nil => intro x; rfl
  | cons p ps ih =>
    intro x
    rw [List.map_cons, List.flatten_cons, crcV_append, ← ih]
    rfl
set_option maxHeartbeats 1000000 in
theorem crc_alive (w : World) : Calls Try.prog 8 #[] w fun e w' => e = .returned (.bool true) ∧ Below w.heap.size w w' := by
  have kc := fun (w : World) (C : Array Value) (n c : Nat) => Lib.run_convert_bytes_const (P := Try.prog) w 22 5 C n c Try.underlying22 Try.underlying5
  have H97 : Aside0 (ReadsInt (w.alloc (.cells #[.int .u8 97, .int .u8 98] 5 (2, 3))) .u8 (some ⟨w.heap.size, 0, none⟩) 2 [97, 98]) := ⟨reads_row w [97, 98] 5 (2, 3) (by decide)⟩
  have H9 : Aside0 (crcI [49, 50, 51, 52, 53, 54, 55, 56, 57] = 12739) := ⟨by decide +kernel⟩
  go_enter Try.func8, Try.ntmps8
  go_wp2_with (first | (go_at_call 14; (refine (calls_at' rfl (seal_calls (some ⟨w.heap.size, 0, none⟩) 2 [97, 98] _ H97.out (by decide))).mono ?_); rintro e w1 ⟨v1, rfl, hr1, hb1⟩; obtain ⟨A1, c1, rfl, hcc, hR1⟩ := reads_own2 hr1; have HC1 := Aside0.mk hcc; have HR1 := Aside0.mk hR1; have HB1 := Aside0.mk (bel_step (below_alloc (Below.refl _ _) _) hb1); clear hr1 hb1 hR1 hcc) | (go_at_call 9; (with_reducible refine (open_calls A1 c1 (sealL [97, 98]) _ HR1.out HC1.out (by decide +kernel)).mono ?_); rw [(openB_seal _).1, (openB_seal _).2]; rintro e w2 ⟨v2, rfl, hr2, hb2⟩; obtain ⟨A2, c2, rfl, hcc, hR2⟩ := reads_own2 hr2; have HR2 := Aside0.mk hR2; have HB2 := Aside0.mk (bel_step HB1.out hb2); clear hr2 hb2 hR2 hcc) | (go_at_call 13; (refine (calls_at' rfl (sum_one [49, 50, 51, 52, 53, 54, 55, 56, 57] (some ⟨w2.heap.size, 0, none⟩) 9 (w2.heap.size + 1) 1 _ (alloc_two w2 _ _) ((reads_row w2 [49, 50, 51, 52, 53, 54, 55, 56, 57] 5 (9, 10) (by decide)).below (below_alloc (Below.refl _ _) _)) (by decide))).mono ?_); rw [H9.out]; rintro e w3 ⟨rfl, hb3⟩; have HB3 := Aside0.mk (bel_step (below_alloc (below_alloc HB2.out _) _) hb3); have hq : (convert 22 9 (.slice A2 2 c2)).run Try.prog w3 = .ok (.string ⟨#[97, 98]⟩) w3 := (by have := conv_reads (c := c2) (HR2.out.below (bel_step (below_alloc (below_alloc (Below.refl _ _) _) _) hb3)); exact this); clear hb3))
  go_ret
  exact ⟨rfl, HB3.out⟩
end Go.Proofs.Ytjmmafonidgimaa.Hand
