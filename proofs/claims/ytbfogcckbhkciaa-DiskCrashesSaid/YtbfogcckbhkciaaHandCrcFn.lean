/- Contracts of crc.Sum, Seal and Open, and of slices.Equal at bytes. -/
import Derived.Test.YtbfogcckbhkciaaHandCrcRef
import Derived.Test.YtbfogcckbhkciaaHandPuts2
import Derived.Deep.QuietTactic
namespace Go.Proofs.Ytbfogcckbhkciaa.Hand
open Go.RowKit Go.Proofs.YtbfogcckbhkciaaW.PrintWords

abbrev Part := Option Addr × Nat × List Int
def sumV (x : V16) (ps : List Part) : V16 := ps.foldl (fun x p => crcV x p.2.2) x
theorem ofInt_tI (x : V16) : BitVec.ofInt 16 (tI x) = x := by
  apply tI_inj
  rw [tI_ofInt]
  have := tI_lt x
  omega
theorem sum_calls (ps : List Part) (a : Addr) (c : Nat) (w : World) (hc : ∀ j (h : j < ps.length), w.cell? (a.add j) = some (.slice (ps[j]).1 (ps[j]).2.2.length (ps[j]).2.1))
    (hr : ∀ j (h : j < ps.length), ReadsInt w .u8 (ps[j]).1 (ps[j]).2.2.length (ps[j]).2.2 ∧ (ps[j]).2.2.length ≤ 140737488355328) (hl : ps.length ≤ 1000) :
    Calls Try.prog 123 #[.slice (some a) ps.length c] w fun e w' => e = .returned (.int .i64 (tI (sumV 0#16 ps))) ∧ Below w.heap.size w w' := by
  have HC := Aside0.mk hc
  have HR := Aside0.mk hr
  clear hc hr
  go_enter Try.func123, Try.ntmps123
  go_wp2
  go_loopw [3, 8] (fun n i wr => ∃ (k : Nat) (x : V16), k ≤ ps.length ∧ i = .int .i64 k ∧ n = .int .i64 (tI x) ∧ Aside0 (x = sumV 0#16 (ps.take k)) ∧ Aside0 (Below w.heap.size w wr)) (fun _ i _ => (ps.length - intOf i).toNat)
  case atStart => exact ⟨0, 0#16, Nat.zero_le _, rfl, rfl, ⟨rfl⟩, ⟨Below.refl _ _⟩⟩
  case round =>
    obtain ⟨k, x, hk, rfl, rfl, HX, HB⟩ := hrel
    by_cases hlt : k < ps.length
    · have hc := HC.out k hlt
      have HL := Aside0.mk (HR.out k hlt)
      have HT := Aside0.mk (show ps.take (k + 1) = ps.take k ++ [ps[k]] by rw [List.take_succ_eq_append_getElem hlt])
      obtain ⟨p, hp⟩ : ∃ p, p = ps[k] := ⟨_, rfl⟩
      rw [← hp] at hc HL HT
      have hc1 : wr.cell? (a.add k) = some (.slice p.1 p.2.2.length p.2.1) := (HB.out.cell (World.block_lt_of_cell? w _ hc)).trans hc
      clear hc hp
      go_wp2_with (go_at_call 134; (with_reducible refine (more_v (tI x) p.1 p.2.1 p.2.2 _ (HL.out.1.below HB.out) HL.out.2).mono ?_); rintro e w1 ⟨rfl, hb1⟩; have HB1 := Aside0.mk (bel_step HB.out hb1); clear hb1)
      go_roundw
      case rel => exact ⟨k + 1, crcV x p.2.2, by omega, by go_num, by rw [ofInt_tI], ⟨by rw [HT.out, sumV, List.foldl_append, HX.out]; rfl⟩, HB1⟩
      case measure => simp [intOf]; omega
    · obtain rfl : k = ps.length := by omega
      go_wp2
      go_ret
      rw [HX.out, List.take_of_length_le (Nat.le_refl _)]
      exact ⟨rfl, HB.out⟩
theorem reads_take {w : World} {A : Option Addr} {l : List Int} {k : Nat} (hk : k ≤ l.length) (h : ReadsInt w .u8 A l.length l) : ReadsInt w .u8 A (l.take k).length (l.take k) := by
  have hl : (l.take k).length = k := by rw [List.length_take]; omega
  refine ⟨rfl, by have := h.2.1; omega, fun h0 => ?_⟩
  obtain ⟨ad, e, hx⟩ := h.2.2 (by omega)
  refine ⟨ad, e, fun j hj => ?_⟩
  rw [hx j (by omega), List.getD_eq_getElem?_getD, List.getD_eq_getElem?_getD, List.getElem?_take_of_lt (by omega)]
/-- The sum of bytes. -/
def crcI (l : List Int) : Int := tI (crcV 0#16 l)
def sealL (l : List Int) : List Int := l ++ leB (crcI l) 2
theorem sealL_length (l : List Int) : (sealL l).length = l.length + 2 := by rw [sealL, List.length_append, leB_length]
theorem sum_one (l : List Int) (A : Option Addr) (c g n : Nat) (w : World) (hg : w.heap[g]? = some (.cells #[.slice A l.length c] 23 (0, 0))) (hr : ReadsInt w .u8 A l.length l) (hl : l.length ≤ 140737488355328) :
    Calls Try.prog 123 #[.slice (some ⟨g, 0, none⟩) 1 n] w fun e w' => e = .returned (.int .i64 (crcI l)) ∧ Below w.heap.size w w' :=
  sum_calls [(A, c, l)] ⟨g, 0, none⟩ n w (fun j h => by
    obtain rfl : j = 0 := by simpa using h
    simpa [Addr.add] using cell_of_one hg) (fun j h => by
    obtain rfl : j = 0 := by simpa using h
    exact ⟨hr, hl⟩) (by simp)
set_option maxHeartbeats 1000000 in
theorem seal_calls (A : Option Addr) (c : Nat) (l : List Int) (w : World) (hr : ReadsInt w .u8 A l.length l) (hl : l.length + 8 ≤ 140737488355328) :
    Calls Try.prog 93 #[.slice A l.length c] w fun e w' => ∃ v : Value, e = .returned v ∧ Kd.R (Kd.int .u8) 5 w' 0 (New w) v (sealL l) ∧ Below w.heap.size w w' := by
  have HR := Aside0.mk hr
  obtain ⟨hc0, hc1⟩ : 0 ≤ crcI l ∧ crcI l < 65536 := tI_lt _
  have HP := Aside0.mk (show fitsB (crcI l) 2 = true by rw [fits_one _ 2 hc0 (by omega)]; simp [rfitsB, rightB, topN]; omega)
  clear hr
  go_enter Try.func93, Try.ntmps93
  go_wp2_with (first | (go_at_call 61; (with_reducible refine (clone_bytes A c l w HR.out (by omega)).mono ?_); rintro e w1 ⟨v1, rfl, hr1, hb1⟩; have HR1 := Aside0.mk (own_new hr1 (Nat.le_refl _)); have HB1 := Aside0.mk hb1; clear hr1 hb1) | (go_at_call 123; (with_reducible refine (sum_one l A c w1.heap.size 1 _ (heap_alloc_new w1 _) (HR.out.below (below_alloc HB1.out _)) (by omega)).mono ?_); rintro e w2 ⟨rfl, hb2⟩; have HB2 := Aside0.mk (bel_step (below_alloc HB1.out _) hb2); have HR2 := Aside0.mk (Kd.R_below HR1.out (bel_step (below_alloc (Below.refl _ _) _) hb2)); clear hb2) | (go_at_call 92; (with_reducible refine (put_any (New w) v1 l 2 (crcI l) _ HR2.out (by omega)).mono ?_); rw [HP.out]; rintro e w3 ⟨v3, rfl, hr3, hf3⟩; have HR3 := Aside0.mk hr3; have HB3 := Aside0.mk (HB2.out.trans (hf3.below _ HB2.out.size (fun b hb => hb))); clear hr3 hf3))
  go_ret
  have h3 := HR3.out
  rw [putL_two hc0 hc1] at h3
  refine ⟨_, rfl, Kd.R_mono h3 (fun k hk => ?_), HB3.out⟩
  rcases hk with hk | hk
  · exact hk
  · exact Nat.le_trans HB2.out.size hk
/-- What Open answers. -/
def openB (l : List Int) : Bool := decide (2 ≤ l.length) && decide (sealL (l.take (l.length - 2)) = l)
def openL (l : List Int) : List Int := if openB l then l.take (l.length - 2) else []
end Go.Proofs.Ytbfogcckbhkciaa.Hand
