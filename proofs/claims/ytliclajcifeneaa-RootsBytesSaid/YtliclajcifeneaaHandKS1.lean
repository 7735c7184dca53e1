/- What a claim needs of the walks and contracts, part S1. -/
import Derived.Sort.LotA
import Derived.Sort.Walk13a
import Derived.WalkKit
import Derived.BigGuard
import Derived.BigCall
import Derived.CellFam
import Derived.Deep.Draws
import Derived.Deep.QuietTactic
import Derived.BigQuiet
import Derived.Sort.LotC
import Derived.Deep.RegionWith
import Derived.Laws.BitsAllLaws
import Derived.Sort.Lot0
import Derived.Sort.LotD3
import Derived.Test.YtliclajcifeneaaHandKB1
namespace Go.Proofs.Ytliclajcifeneaa.Hand
set_option linter.unusedVariables false
set_option linter.unusedSimpArgs false
open Go.RowKit Go.Sort Go.Proofs.YtliclajcifeneaaW.PrintWords
set_option linter.unusedVariables false
set_option linter.unusedSimpArgs false
/-- An element of the row. -/
abbrev eU : Int → Value := Value.int .u64
def nOf : Value → Int | .int _ q => q | _ => 0
theorem uNaN_calls (x : Int) (w : World) : Calls Try.prog 86 #[.int .u64 x] w fun e w' => e = .returned (.bool false) ∧ w' = w := by
  go_enter Try.func86, Try.ntmps86
  go_wp2
  go_ret
  exact ⟨by simp, rfl⟩
theorem uLess_calls (x y : Int) (w : World) : Calls Try.prog 66 #[.int .u64 x, .int .u64 y] w fun e w' => e = .returned (.bool (ltInt x y)) ∧ w' = w := by
  go_enter Try.func66, Try.ntmps66
  go_wp2_with (go_at_call 86; refine (uNaN_calls _ _).mono ?_; rintro e w' ⟨rfl, rfl⟩)
  go_ret
  exact ⟨rfl, rfl⟩
section
variable {w wr : World} {blk off : Nat} {d0 d : Array Int}
/-- What the row holds may be read and written. -/
theorem at_cell (h : At eU w blk off d wr) (h0 : Holds eU w blk off d0) (hs : d.size = d0.size) (hb : blk < w.heap.size) {t : Nat} (ht : t < d0.size) : wr.cell? ⟨blk, off + t, none⟩ = some (.int .u64 d[t]!) := ((h.holds h0 hs hb).1 t (by omega)).1
theorem at_froz (h : At eU w blk off d wr) (h0 : Holds eU w blk off d0) (hs : d.size = d0.size) (hb : blk < w.heap.size) {t : Nat} (ht : t < d0.size) : wr.frozen? ⟨blk, off + t, none⟩ = false := ((h.holds h0 hs hb).1 t (by omega)).2
theorem at_drew (h : At eU w blk off d wr) (q : Nat) : At eU w blk off d (wr.drewN q) := h.ahead q
/-- Two cells of the row have changed places. -/
theorem at_swp (h : At eU w blk off d wr) (h0 : Holds eU w blk off d0) (hs : d.size = d0.size) (hb : blk < w.heap.size) (q : Nat) {j k : Nat} (hj : j < d0.size) (hk : k < d0.size) :
    At eU w blk off (swp d j k) (((wr.drewN q).setCell ⟨blk, off + j, none⟩ (.int .u64 d[k]!)).setCell ⟨blk, off + k, none⟩ (.int .u64 d[j]!)) := by
  refine h.step hb (size_swp d j k) ⟨q, ?_⟩
  have hw := (h.holds h0 hs hb).1
  have e := putRow_self eU (Sort.ahead wr q) blk off d (holds_ahead _ _ _ _ _ _ hw)
  rw [← putRow_swp eU (Sort.ahead wr q) blk off d j k (by omega) (by omega), e]
  rfl
end
section
variable {α : Type} [Inhabited α] (lt : α → α → Bool)
theorem ins_go {a j : Nat} {d : Array α} (hj : a < j) (hl : lt d[j]! d[j - 1]! = true) : insInner lt a j d = insInner lt a (j - 1) (swp d j (j - 1)) := by
  cases j with
  | zero => omega
  | succ k =>
    rw [insInner, if_pos]
    · rfl
    · simpa [hj] using hl
theorem ins_stop {a j : Nat} {d : Array α} (h : j ≤ a ∨ lt d[j]! d[j - 1]! = false) : insInner lt a j d = d := by
  cases j with
  | zero => rw [insInner]
  | succ k =>
    rw [insInner, if_neg]
    rcases h with h | h
    · simp only [Bool.and_eq_true, decide_eq_true_eq, not_and]; omega
    · simp only [Nat.add_sub_cancel] at h; simp [h]
end
/-- The library's insertion sort. -/
theorem uIns_calls (blk off cap a b : Nat) (d : Array Int) (w : World) (hH : Holds eU w blk off d) (hblk : blk < w.heap.size) (hab : a ≤ b) (hb : b ≤ d.size) (hsz : d.size < 4611686018427387904) :
    Calls Try.prog 60 #[.slice (some ⟨blk, off, none⟩) d.size cap, .int .i64 a, .int .i64 b] w fun e w' => e = .returned (.tuple #[]) ∧ At eU w blk off (insertionSort ltInt d a b) w' := by
  have HH := Aside0.mk hH
  clear hH
  go_enter Try.func60, Try.ntmps60
  go_wp2
  go_loopw [6] (fun vi wr => ∃ (i : Nat) (dk : Array Int), vi = .int .i64 i ∧ a < i ∧ i ≤ b + 1 ∧ dk.size = d.size ∧ Aside0 (At eU w blk off dk wr) ∧ Aside0 (insOuter ltInt a b i dk = insOuter ltInt a b (a + 1) d)) (fun vi _ => b + 1 - (nOf vi).toNat)
  case atStart => exact ⟨a + 1, d, by go_num, by omega, by omega, rfl, ⟨At.refl HH.out⟩, ⟨rfl⟩⟩
  case round =>
    obtain ⟨i, dk, rfl, hai, hib, hsk, HA, HO⟩ := hrel
    go_wp2
    · have hlt : i < b := by assumption
      go_loopw [7] (fun vj wr2 => ∃ (j : Nat) (dj : Array Int), vj = .int .i64 j ∧ a ≤ j ∧ j ≤ i ∧ dj.size = d.size ∧ Aside0 (At eU w blk off dj wr2) ∧ Aside0 (insInner ltInt a j dj = insInner ltInt a i dk)) (fun vj _ => (nOf vj).toNat)
      case atStart => exact ⟨i, dk, rfl, by omega, Nat.le_refl _, hsk, HA, ⟨rfl⟩⟩
      case round =>
        obtain ⟨j, dj, rfl, haj, hji, hsj, HB, HI⟩ := hrel
        obtain ⟨G, hG⟩ : ∃ G : Nat → Int, ∀ t, G t = dj[t]! := ⟨fun t => dj[t]!, fun _ => rfl⟩
        have hcw : ∀ t, t < d.size → wr.cell? ⟨blk, off + t, none⟩ = some (.int .u64 (G t)) := fun t ht => by rw [hG]; exact at_cell HB.out HH.out hsj hblk ht
        have hfw : ∀ t, t < d.size → wr.frozen? ⟨blk, off + t, none⟩ = false := fun t ht => at_froz HB.out HH.out hsj hblk ht
        have HG := Aside0.mk hG
        clear hG
        have HS := Aside0.mk hsj
        clear hsj
        -- the inner loop's end
        have OUT : Aside0 ((j ≤ a ∨ ltInt dj[j]! dj[j - 1]! = false) → insOuter ltInt a b (i + 1) dj = insOuter ltInt a b (a + 1) d) := ⟨fun hs => by rw [← HO.out, insOuter.eq_1 ltInt a b i dk, if_pos hlt, ← HI.out, ins_stop ltInt hs]⟩
        go_wp2
        by_cases hja : a < j
        · go_quiet (first | (go_at_call 66; refine Calls.quiet_of_same (uLess_calls _ _ _)))
          go_wp2
          · have hl : ltInt (G j) (G (j - 1)) = true := by assumption
            go_region
            all_goals go_wp2
            go_roundw
            case rel =>
              refine ⟨j - 1, swp dj j (j - 1), by congr 1; omega, by omega, by omega, by rw [size_swp]; exact HS.out, ?_, ⟨?_⟩⟩
              · have h1 := at_swp HB.out HH.out HS.out hblk (nq + 1) (j := j) (k := j - 1) (by omega) (by omega)
                rw [← HG.out, ← HG.out] at h1
                exact ⟨h1⟩
              · rw [← HI.out, ins_go ltInt hja (by rw [← HG.out, ← HG.out]; exact hl)]
            case measure => simp [nOf]; omega
          · have hl : ltInt (G j) (G (j - 1)) = false := by assumption
            go_roundw
            case rel => exact ⟨i + 1, dj, by go_num, by omega, by omega, HS.out, ⟨at_drew HB.out _⟩, ⟨OUT.out (Or.inr (by rw [← HG.out, ← HG.out]; exact hl))⟩⟩
            case measure => simp [nOf]; omega
        · go_quiet (first | (go_at_call 66; refine Calls.quiet_of_same (uLess_calls _ _ _)))
          go_wp2
          go_roundw
          case rel => exact ⟨i + 1, dj, by go_num, by omega, by omega, HS.out, ⟨at_drew HB.out _⟩, ⟨OUT.out (Or.inl (by omega))⟩⟩
          case measure => simp [nOf]; omega
    · have hge : ¬ i < b := by assumption
      go_end0
      refine ⟨rfl, ?_⟩
      have := HA.out
      rw [insertionSort, ← HO.out, insOuter, if_neg hge]
      exact this
end Go.Proofs.Ytliclajcifeneaa.Hand
namespace Go.Proofs.Ytliclajcifeneaa.Hand
set_option linter.unusedVariables false
set_option linter.unusedSimpArgs false
open Go.RowKit Go.Sort Go.Proofs.YtliclajcifeneaaW.PrintWords
set_option linter.unusedVariables false
set_option linter.unusedSimpArgs false
section
variable {α : Type} [Inhabited α] {P : α → Bool} {d : Array α}
theorem up_go {i j : Nat} (h : i ≤ j) (hp : P d[i]! = true) : scanUp P d j (i + 1) = scanUp P d j i := by
  rw [scanUp.eq_1 P d j i, if_pos (by simp [h, hp])]
theorem up_stop {i j : Nat} (h : j < i ∨ P d[i]! = false) : scanUp P d j i = i := by
  rw [scanUp, if_neg]
  rcases h with h | h
  · simp only [Bool.and_eq_true, decide_eq_true_eq, not_and]; omega
  · simp [h]
theorem down_go {i j : Nat} (h : i ≤ j) (h0 : 0 < j) (hp : P d[j]! = true) : scanDown P d i (j - 1) = scanDown P d i j := by
  cases j with
  | zero => omega
  | succ k =>
    rw [scanDown.eq_2, if_pos (by simp [h, hp])]
    rfl
theorem down_stop {i j : Nat} (h : j < i ∨ P d[j]! = false) : scanDown P d i j = j := by
  cases j with
  | zero => rfl
  | succ k =>
    rw [scanDown, if_neg]
    rcases h with h | h
    · simp only [Bool.and_eq_true, decide_eq_true_eq, not_and]; omega
    · simp [h]
end
/-- The values of the row, by a name of their own, and how they are read. -/
theorem row_fam {w wr : World} {blk off : Nat} {d0 d : Array Int} (h : At eU w blk off d wr) (h0 : Holds eU w blk off d0) (hs : d.size = d0.size) (hb : blk < w.heap.size) :
    ∃ G : Nat → Int, (∀ t, G t = d[t]!) ∧ (∀ t, t < d0.size → wr.cell? ⟨blk, off + t, none⟩ = some (.int .u64 (G t))) ∧ (∀ t, t < d0.size → wr.frozen? ⟨blk, off + t, none⟩ = false) :=
  ⟨fun t => d[t]!, fun _ => rfl, fun t ht => at_cell h h0 hs hb ht, fun t ht => at_froz h h0 hs hb ht⟩
/-- What stands at p when a has been given what stood there. -/
theorem swp_cell {wr : World} {blk off n : Nat} {G : Nat → Int} (hcw : ∀ t, t < n → wr.cell? ⟨blk, off + t, none⟩ = some (.int .u64 (G t))) {a p : Nat} (hp : p < n) :
    (wr.setCell ⟨blk, off + a, none⟩ (.int .u64 (G p))).cell? ⟨blk, off + p, none⟩ = some (.int .u64 (G p)) := by
  by_cases e : p = a
  · subst e
    exact World.cell?_setCell_same _ _ _ (hcw p hp)
  · rw [World.cell?_setCell_other _ _ _ _ (fun h => e (by injection h with h1 h2 h3; omega))]
    exact hcw _ hp
theorem uPartEq_calls (blk off cap a b p : Nat) (d : Array Int) (w : World) (hH : Holds eU w blk off d) (hblk : blk < w.heap.size) (hap : a ≤ p) (hpb : p < b) (hb : b ≤ d.size) (hsz : d.size < 4611686018427387904) :
    Calls Try.prog 67 #[.slice (some ⟨blk, off, none⟩) d.size cap, .int .i64 a, .int .i64 b, .int .i64 p] w fun e w' =>
      e = .returned (.int .i64 (partitionEqual ltInt d a b p).1) ∧ At eU w blk off (partitionEqual ltInt d a b p).2 w' := by
  have HH := Aside0.mk hH
  obtain ⟨G, hG, hcw, hfw⟩ := row_fam (At.refl hH) hH rfl hblk
  have HG := Aside0.mk hG
  clear hH hG
  have H1 : Aside0 (∀ q, At eU w blk off (swp d a p) (((w.drewN q).setCell ⟨blk, off + a, none⟩ (.int .u64 (G p))).setCell ⟨blk, off + p, none⟩ (.int .u64 (G a)))) := ⟨fun q => by rw [HG.out, HG.out]; exact at_swp (At.refl HH.out) HH.out rfl hblk q (by omega) (by omega)⟩
  obtain ⟨d1, hd1⟩ : ∃ d1, d1 = swp d a p := ⟨_, rfl⟩
  have hs1 : d1.size = d.size := by rw [hd1, size_swp]
  rw [← hd1] at H1
  have HE : Aside0 (partitionEqual ltInt d a b p = partEqLoop ltInt a (a + 1) (b - 1) d1) := ⟨by rw [hd1]; rfl⟩
  rw [HE.out]
  clear HE hd1
  have HS1 := Aside0.mk hs1
  clear hs1
  have hst := swp_cell hcw (a := a) (p := p) (by omega)
  go_enter Try.func67, Try.ntmps67
  go_wp2
  go_region
  all_goals go_wp2
  go_loopw [9, 10] (fun vi vj wr => ∃ (i j : Nat) (dk : Array Int), vi = .int .i64 i ∧ vj = .int .i64 j ∧ a < i ∧ i ≤ j + 1 ∧ j < b ∧ Aside0 (dk.size = d.size) ∧ Aside0 (At eU w blk off dk wr) ∧ Aside0 (partEqLoop ltInt a i j dk = partEqLoop ltInt a (a + 1) (b - 1) d1)) (fun vi vj _ => (nOf vj).toNat + 1 - (nOf vi).toNat)
  case atStart => exact ⟨a + 1, b - 1, d1, by go_num, by congr 1; omega, by omega, by omega, by omega, HS1, ⟨H1.out 1⟩, ⟨rfl⟩⟩
  case round =>
    obtain ⟨i, j, dk, rfl, rfl, hai, hij, hjb, HS, HA, HO⟩ := hrel
    clear hcw hfw
    clear hst
    have hjd : j < d.size := by omega
    go_wp2
    go_loopw [9] (fun vi wr2 => ∃ (i2 : Nat), vi = .int .i64 i2 ∧ i ≤ i2 ∧ i2 ≤ j + 1 ∧ Aside0 (At eU w blk off dk wr2) ∧ Aside0 (scanUp (fun x => !ltInt dk[a]! x) dk j i2 = scanUp (fun x => !ltInt dk[a]! x) dk j i)) (fun vi _ => j + 1 - (nOf vi).toNat)
    case atStart => exact ⟨i, rfl, Nat.le_refl _, hij, HA, ⟨rfl⟩⟩
    case round =>
      obtain ⟨i2, rfl, hi2, hij2, HA2, HU⟩ := hrel
      obtain ⟨G, hG, hcw, hfw⟩ := row_fam HA2.out HH.out HS.out hblk
      have HG := Aside0.mk hG
      clear hG
      go_wp2
      by_cases hc : i2 ≤ j
      all_goals go_quiet (first | (go_at_call 66; refine Calls.quiet_of_same (uLess_calls _ _ _)))
      all_goals go_wp2
      · go_roundw
        case rel => exact ⟨i2 + 1, by go_num, by omega, by omega, ⟨at_drew HA2.out _⟩, ⟨by rw [← HU.out]; exact up_go hc (by rw [← HG.out, ← HG.out]; assumption)⟩⟩
        case measure => simp [nOf]; omega
      all_goals
        have HU2 : Aside0 (scanUp (fun x => !ltInt dk[a]! x) dk j i = i2) := ⟨by
          rw [← HU.out]
          refine up_stop ?_
          first
          | exact Or.inl (by omega) | (exact Or.inr (by rw [← HG.out, ← HG.out]; assumption))⟩
        clear hcw hfw
        go_loopw [10] (fun vj wr3 => ∃ (j2 : Nat), vj = .int .i64 j2 ∧ j2 ≤ j ∧ i2 ≤ j2 + 1 ∧ Aside0 (At eU w blk off dk wr3) ∧ Aside0 (scanDown (fun x => ltInt dk[a]! x) dk i2 j2 = scanDown (fun x => ltInt dk[a]! x) dk i2 j)) (fun vj _ => (nOf vj).toNat)
        case atStart => exact ⟨j, rfl, Nat.le_refl _, by omega, ⟨at_drew HA2.out _⟩, ⟨rfl⟩⟩
        case round =>
          obtain ⟨j2, rfl, hj2, hij3, HA3, HD⟩ := hrel
          obtain ⟨G, hG, hcw, hfw⟩ := row_fam HA3.out HH.out HS.out hblk
          have HG := Aside0.mk hG
          clear hG
          have hj2d : j2 < d.size := by omega
          go_wp2
          by_cases hc2 : i2 ≤ j2
          all_goals go_quiet (first | (go_at_call 66; refine Calls.quiet_of_same (uLess_calls _ _ _)))
          all_goals go_wp2
          all_goals first | (go_roundw; (case rel => exact ⟨j2 - 1, by congr 1; omega, by omega, by omega, ⟨at_drew HA3.out _⟩, ⟨by rw [← HD.out]; exact down_go hc2 (by omega) (by rw [← HG.out, ← HG.out]; assumption)⟩⟩); (case measure => simp [nOf]; omega)) | (skip)
          all_goals
            have HD2 : Aside0 (scanDown (fun x => ltInt dk[a]! x) dk i2 j = j2) := ⟨by
              rw [← HD.out]
              refine down_stop ?_
              first
              | exact Or.inl (by omega) | (exact Or.inr (by rw [← HG.out, ← HG.out]; assumption))⟩
            have HN : Aside0 (partEqLoop ltInt a i j dk = if i2 > j2 then (i2, dk) else partEqLoop ltInt a (i2 + 1) (j2 - 1) (swp dk i2 j2)) := ⟨by rw [partEqLoop_eq, HU2.out, HD2.out]⟩
            have hne : i2 ≠ j2 := fun e => by
              have h1 := (scanUp_spec (fun x => !ltInt dk[a]! x) dk j _ i rfl).2.2.2
              have h2 := (scanDown_spec (fun x => ltInt dk[a]! x) dk i2 j).2.2.2
              rw [HU2.out] at h1
              rw [HD2.out] at h2
              have h3 := h1 (by omega)
              have h4 := h2 (by omega) (by omega)
              simp only [e] at h3
              simp only [h4] at h3
              cases h3
            by_cases hx : i2 > j2
            · try (exfalso; omega)
              all_goals
                have e1 : Aside0 (partEqLoop ltInt a (a + 1) (b - 1) d1 = (i2, dk)) := ⟨by rw [← HO.out, HN.out, if_pos hx]⟩
                go_wp2
                go_ret
                refine ⟨?_, ?_⟩
                · rw [e1.out]; rfl
                · rw [e1.out]; exact at_drew HA3.out _
            · try (exfalso; omega)
              all_goals
                have hst : ∀ q, ((wr.drewN q).setCell ⟨blk, off + i2, none⟩ (.int .u64 (G j2))).cell? ⟨blk, off + j2, none⟩ = some (.int .u64 (G j2)) := fun q => swp_cell (wr := wr.drewN q) hcw (a := i2) (p := j2) (by omega)
                go_wp2
                go_region
                all_goals go_wp2
                go_roundw
                case rel =>
                  refine ⟨i2 + 1, j2 - 1, swp dk i2 j2, by go_num, by congr 1; omega, by omega, by omega, by omega, ⟨(size_swp dk i2 j2).trans HS.out⟩, ⟨?_⟩, ⟨by rw [← HO.out, HN.out, if_neg hx]⟩⟩
                  have h1 := at_swp HA3.out HH.out HS.out hblk (nq + 1) (j := i2) (k := j2) (by omega) (by omega)
                  rw [← HG.out, ← HG.out] at h1
                  exact h1
                case measure => simp [nOf]; omega
end Go.Proofs.Ytliclajcifeneaa.Hand
namespace Go.Proofs.Ytliclajcifeneaa.Hand
set_option linter.unusedVariables false
set_option linter.unusedSimpArgs false
open Go.RowKit Go.Sort Go.Proofs.YtliclajcifeneaaW.PrintWords
set_option linter.unusedVariables false
set_option linter.unusedSimpArgs false
set_option maxRecDepth 100000 in
set_option maxHeartbeats 8000000 in
theorem uPart_calls (blk off cap a b p : Nat) (d : Array Int) (w : World) (hH : Holds eU w blk off d) (hblk : blk < w.heap.size) (hap : a ≤ p) (hpb : p < b) (hb : b ≤ d.size) (hsz : d.size < 4611686018427387904) :
    Calls Try.prog 68 #[.slice (some ⟨blk, off, none⟩) d.size cap, .int .i64 a, .int .i64 b, .int .i64 p] w fun e w' =>
      e = .returned (.tuple #[.int .i64 (partition ltInt d a b p).1, .bool (partition ltInt d a b p).2.1]) ∧ At eU w blk off (partition ltInt d a b p).2.2 w' := by
  have HH := Aside0.mk hH
  obtain ⟨G, hG, hcw, hfw⟩ := row_fam (At.refl hH) hH rfl hblk
  have HG := Aside0.mk hG
  clear hH hG
  have H1 : Aside0 (∀ q, At eU w blk off (swp d a p) (((w.drewN q).setCell ⟨blk, off + a, none⟩ (.int .u64 (G p))).setCell ⟨blk, off + p, none⟩ (.int .u64 (G a)))) := ⟨fun q => by rw [HG.out, HG.out]; exact at_swp (At.refl HH.out) HH.out rfl hblk q (by omega) (by omega)⟩
  obtain ⟨d1, hd1⟩ : ∃ d1, d1 = swp d a p := ⟨_, rfl⟩
  have hs1 : d1.size = d.size := by rw [hd1, size_swp]
  rw [← hd1] at H1
  have HE : Aside0 (partition ltInt d a b p = if scanUp (fun x => ltInt x d1[a]!) d1 (b - 1) (a + 1) > scanDown (fun x => !ltInt x d1[a]!) d1 (scanUp (fun x => ltInt x d1[a]!) d1 (b - 1) (a + 1)) (b - 1) then
      (scanDown (fun x => !ltInt x d1[a]!) d1 (scanUp (fun x => ltInt x d1[a]!) d1 (b - 1) (a + 1)) (b - 1), true, swp d1 (scanDown (fun x => !ltInt x d1[a]!) d1 (scanUp (fun x => ltInt x d1[a]!) d1 (b - 1) (a + 1)) (b - 1)) a)
    else ((partLoop ltInt a (scanUp (fun x => ltInt x d1[a]!) d1 (b - 1) (a + 1) + 1) (scanDown (fun x => !ltInt x d1[a]!) d1 (scanUp (fun x => ltInt x d1[a]!) d1 (b - 1) (a + 1)) (b - 1) - 1) (swp d1 (scanUp (fun x => ltInt x d1[a]!) d1 (b - 1) (a + 1)) (scanDown (fun x => !ltInt x d1[a]!) d1 (scanUp (fun x => ltInt x d1[a]!) d1 (b - 1) (a + 1)) (b - 1)))).1, false,
      swp (partLoop ltInt a (scanUp (fun x => ltInt x d1[a]!) d1 (b - 1) (a + 1) + 1) (scanDown (fun x => !ltInt x d1[a]!) d1 (scanUp (fun x => ltInt x d1[a]!) d1 (b - 1) (a + 1)) (b - 1) - 1) (swp d1 (scanUp (fun x => ltInt x d1[a]!) d1 (b - 1) (a + 1)) (scanDown (fun x => !ltInt x d1[a]!) d1 (scanUp (fun x => ltInt x d1[a]!) d1 (b - 1) (a + 1)) (b - 1)))).2
        (partLoop ltInt a (scanUp (fun x => ltInt x d1[a]!) d1 (b - 1) (a + 1) + 1) (scanDown (fun x => !ltInt x d1[a]!) d1 (scanUp (fun x => ltInt x d1[a]!) d1 (b - 1) (a + 1)) (b - 1) - 1) (swp d1 (scanUp (fun x => ltInt x d1[a]!) d1 (b - 1) (a + 1)) (scanDown (fun x => !ltInt x d1[a]!) d1 (scanUp (fun x => ltInt x d1[a]!) d1 (b - 1) (a + 1)) (b - 1)))).1 a)) := ⟨by rw [hd1]; rfl⟩
  clear hd1
  obtain ⟨jb, hjb1⟩ : ∃ jb, b - 1 = jb := ⟨_, rfl⟩
  rw [hjb1] at HE
  have hjb2 : jb + 1 = b := by omega
  clear hjb1
  have hjb3 : jb < d.size := by omega
  have hbI : (b : Int) - 1 = (jb : Int) := by omega
  have HS1 := Aside0.mk hs1
  clear hs1
  have hst := swp_cell hcw (a := a) (p := p) (by omega)
  go_enter Try.func68, Try.ntmps68
  go_wp2
  go_region
  all_goals go_wp2
  have HA : Aside0 (At eU w blk off d1 (((w.drewN 1).setCell ⟨blk, off + a, none⟩ (.int .u64 (G p))).setCell ⟨blk, off + p, none⟩ (.int .u64 (G a)))) := ⟨H1.out 1⟩
  clear hcw hfw hst H1
  go_loopw [10] (fun vi wr => ∃ (i2 : Nat), vi = .int .i64 i2 ∧ (a + 1) ≤ i2 ∧ i2 ≤ jb + 1 ∧ Aside0 (At eU w blk off d1 wr) ∧ Aside0 (scanUp (fun x => ltInt x d1[a]!) d1 jb i2 = scanUp (fun x => ltInt x d1[a]!) d1 jb (a + 1))) (fun vi _ => jb + 1 - (nOf vi).toNat)
  case atStart => exact ⟨(a + 1), by go_num, Nat.le_refl _, (by omega), HA, ⟨rfl⟩⟩
  case round =>
    obtain ⟨i21, rfl, hi21, hij21, HA21, HU1⟩ := hrel
    obtain ⟨G, hG, hcw, hfw⟩ := row_fam HA21.out HH.out HS1.out hblk
    have HG := Aside0.mk hG
    clear hG
    go_wp2
    by_cases hc1 : i21 ≤ jb
    all_goals go_quiet (first | (go_at_call 66; refine Calls.quiet_of_same (uLess_calls _ _ _)))
    all_goals go_wp2
    all_goals first | (go_roundw; (case rel => exact ⟨i21 + 1, by go_num, by omega, by omega, ⟨at_drew HA21.out _⟩, ⟨by rw [← HU1.out]; exact up_go hc1 (by rw [← HG.out, ← HG.out]; assumption)⟩⟩); (case measure => simp [nOf]; omega)) | (skip)
    all_goals
      have HU21 : Aside0 (scanUp (fun x => ltInt x d1[a]!) d1 jb (a + 1) = i21) := ⟨by
        rw [← HU1.out]
        refine up_stop ?_
        first
        | exact Or.inl (by omega) | (exact Or.inr (by rw [← HG.out, ← HG.out]; assumption))⟩
      clear hcw hfw
      go_loopw [11] (fun vj wr => ∃ (j2 : Nat), vj = .int .i64 j2 ∧ j2 ≤ jb ∧ i21 ≤ j2 + 1 ∧ Aside0 (At eU w blk off d1 wr) ∧ Aside0 (scanDown (fun x => !ltInt x d1[a]!) d1 i21 j2 = scanDown (fun x => !ltInt x d1[a]!) d1 i21 jb)) (fun vj _ => (nOf vj).toNat)
      case atStart => exact ⟨jb, by first | rfl | (congr 1; omega), Nat.le_refl _, by omega, ⟨at_drew HA21.out _⟩, ⟨rfl⟩⟩
      case round =>
        obtain ⟨j21, rfl, hj21, hij31, HA31, HD1⟩ := hrel
        obtain ⟨G, hG, hcw, hfw⟩ := row_fam HA31.out HH.out HS1.out hblk
        have HG := Aside0.mk hG
        clear hG
        have hj2d1 : j21 < d.size := by omega
        go_wp2
        by_cases hd1 : i21 ≤ j21
        all_goals go_quiet (first | (go_at_call 66; refine Calls.quiet_of_same (uLess_calls _ _ _)))
        all_goals go_wp2
        all_goals first | (go_roundw; (case rel => exact ⟨j21 - 1, by congr 1; omega, by omega, by omega, ⟨at_drew HA31.out _⟩, ⟨by rw [← HD1.out]; exact down_go hd1 (by omega) (by rw [← HG.out, ← HG.out]; assumption)⟩⟩); (case measure => simp [nOf]; omega)) | (skip)
        all_goals
          have HD21 : Aside0 (scanDown (fun x => !ltInt x d1[a]!) d1 i21 jb = j21) := ⟨by
            rw [← HD1.out]
            refine down_stop ?_
            first
            | exact Or.inl (by omega) | (exact Or.inr (by rw [← HG.out, ← HG.out]; assumption))⟩
          have hne1 : i21 ≠ j21 := fun e => by
            have h1 := (scanUp_spec (fun x => ltInt x d1[a]!) d1 jb _ ((a + 1)) rfl).2.2.2
            have h2 := (scanDown_spec (fun x => !ltInt x d1[a]!) d1 i21 (jb)).2.2.2
            rw [HU21.out] at h1
            rw [HD21.out] at h2
            have h3 := h1 (by omega)
            have h4 := h2 (by omega) (by omega)
            simp only [e] at h3
            simp only [h3] at h4
            cases h4
          by_cases hx1 : i21 > j21
          · try (exfalso; omega)
            all_goals
              have hst : ∀ q, ((wr.drewN q).setCell ⟨blk, off + j21, none⟩ (.int .u64 (G a))).cell? ⟨blk, off + a, none⟩ = some (.int .u64 (G a)) := fun q => swp_cell (wr := wr.drewN q) hcw (a := j21) (p := a) (by omega)
              have HR : Aside0 (partition ltInt d a b p = (j21, true, swp d1 j21 a)) := ⟨by rw [HE.out, HU21.out, HD21.out, if_pos hx1]⟩
              go_wp2
              go_region
              all_goals go_wp2
              go_ret2
              refine ⟨?_, ?_⟩
              · rw [HR.out]; rfl
              · rw [HR.out]
                have h1 := at_swp HA31.out HH.out HS1.out hblk (nq + 1) (j := j21) (k := a) (by omega) (by omega)
                rw [← HG.out, ← HG.out] at h1
                exact h1
          · try (exfalso; omega)
            all_goals
              have hst : ∀ q, ((wr.drewN q).setCell ⟨blk, off + i21, none⟩ (.int .u64 (G j21))).cell? ⟨blk, off + j21, none⟩ = some (.int .u64 (G j21)) := fun q => swp_cell (wr := wr.drewN q) hcw (a := i21) (p := j21) (by omega)
              obtain ⟨d2, hd2⟩ : ∃ d2, d2 = swp d1 i21 j21 := ⟨_, rfl⟩
              have HS2 : Aside0 (d2.size = d.size) := ⟨by rw [hd2, size_swp]; exact HS1.out⟩
              have HR : Aside0 (partition ltInt d a b p = ((partLoop ltInt a (i21 + 1) (j21 - 1) d2).1, false, swp (partLoop ltInt a (i21 + 1) (j21 - 1) d2).2 (partLoop ltInt a (i21 + 1) (j21 - 1) d2).1 a)) := ⟨by rw [HE.out, HU21.out, HD21.out, if_neg hx1, hd2]⟩
              have HA0 : Aside0 (∀ q, At eU w blk off d2 (((wr.drewN q).setCell ⟨blk, off + i21, none⟩ (.int .u64 (G j21))).setCell ⟨blk, off + j21, none⟩ (.int .u64 (G i21)))) := ⟨fun q => by rw [HG.out, HG.out, hd2]; exact at_swp HA31.out HH.out HS1.out hblk q (by omega) (by omega)⟩
              clear hd2
              go_wp2
              go_region
              all_goals go_wp2
              go_loopw [10, 11] (fun vi vj wr => ∃ (i j : Nat) (dk : Array Int), vi = .int .i64 i ∧ vj = .int .i64 j ∧ a < i ∧ i ≤ j + 1 ∧ j < b ∧ Aside0 (dk.size = d.size) ∧ Aside0 (At eU w blk off dk wr) ∧ Aside0 (partLoop ltInt a i j dk = partLoop ltInt a (i21 + 1) (j21 - 1) d2)) (fun vi vj _ => (nOf vj).toNat + 1 - (nOf vi).toNat)
              case atStart => exact ⟨i21 + 1, j21 - 1, d2, by go_num, by congr 1; omega, by omega, by omega, by omega, HS2, ⟨HA0.out (nq + 1)⟩, ⟨rfl⟩⟩
              case round =>
                clear hcw hfw hst
                obtain ⟨i, j, dk, rfl, rfl, hai, hij, hjb, HS, HA, HO⟩ := hrel
                have hjd : j < d.size := by omega
                go_wp2
                go_loopw [10] (fun vi wr => ∃ (i2 : Nat), vi = .int .i64 i2 ∧ i ≤ i2 ∧ i2 ≤ j + 1 ∧ Aside0 (At eU w blk off dk wr) ∧ Aside0 (scanUp (fun x => ltInt x dk[a]!) dk j i2 = scanUp (fun x => ltInt x dk[a]!) dk j i)) (fun vi _ => j + 1 - (nOf vi).toNat)
                case atStart => exact ⟨i, by go_num, Nat.le_refl _, hij, HA, ⟨rfl⟩⟩
                case round =>
                  obtain ⟨i2, rfl, hi2, hij2, HA2, HU⟩ := hrel
                  obtain ⟨G, hG, hcw, hfw⟩ := row_fam HA2.out HH.out HS.out hblk
                  have HG := Aside0.mk hG
                  clear hG
                  go_wp2
                  by_cases hc : i2 ≤ j
                  all_goals go_quiet (first | (go_at_call 66; refine Calls.quiet_of_same (uLess_calls _ _ _)))
                  all_goals go_wp2
                  all_goals first | (go_roundw; (case rel => exact ⟨i2 + 1, by go_num, by omega, by omega, ⟨at_drew HA2.out _⟩, ⟨by rw [← HU.out]; exact up_go hc (by rw [← HG.out, ← HG.out]; assumption)⟩⟩); (case measure => simp [nOf]; omega)) | (skip)
                  all_goals
                    have HU2 : Aside0 (scanUp (fun x => ltInt x dk[a]!) dk j i = i2) := ⟨by
                      rw [← HU.out]
                      refine up_stop ?_
                      first
                      | exact Or.inl (by omega) | (exact Or.inr (by rw [← HG.out, ← HG.out]; assumption))⟩
                    clear hcw hfw
                    go_loopw [11] (fun vj wr => ∃ (j2 : Nat), vj = .int .i64 j2 ∧ j2 ≤ j ∧ i2 ≤ j2 + 1 ∧ Aside0 (At eU w blk off dk wr) ∧ Aside0 (scanDown (fun x => !ltInt x dk[a]!) dk i2 j2 = scanDown (fun x => !ltInt x dk[a]!) dk i2 j)) (fun vj _ => (nOf vj).toNat)
                    case atStart => exact ⟨j, by first | rfl | (congr 1; omega), Nat.le_refl _, by omega, ⟨at_drew HA2.out _⟩, ⟨rfl⟩⟩
                    case round =>
                      obtain ⟨j2, rfl, hj2, hij3, HA3, HD⟩ := hrel
                      obtain ⟨G, hG, hcw, hfw⟩ := row_fam HA3.out HH.out HS.out hblk
                      have HG := Aside0.mk hG
                      clear hG
                      have hj2d : j2 < d.size := by omega
                      go_wp2
                      by_cases hd : i2 ≤ j2
                      all_goals go_quiet (first | (go_at_call 66; refine Calls.quiet_of_same (uLess_calls _ _ _)))
                      all_goals go_wp2
                      all_goals first | (go_roundw; (case rel => exact ⟨j2 - 1, by congr 1; omega, by omega, by omega, ⟨at_drew HA3.out _⟩, ⟨by rw [← HD.out]; exact down_go hd (by omega) (by rw [← HG.out, ← HG.out]; assumption)⟩⟩); (case measure => simp [nOf]; omega)) | (skip)
                      all_goals
                        have HD2 : Aside0 (scanDown (fun x => !ltInt x dk[a]!) dk i2 j = j2) := ⟨by
                          rw [← HD.out]
                          refine down_stop ?_
                          first
                          | exact Or.inl (by omega) | (exact Or.inr (by rw [← HG.out, ← HG.out]; assumption))⟩
                        have hne : i2 ≠ j2 := fun e => by
                          have h1 := (scanUp_spec (fun x => ltInt x dk[a]!) dk j _ (i) rfl).2.2.2
                          have h2 := (scanDown_spec (fun x => !ltInt x dk[a]!) dk i2 (j)).2.2.2
                          rw [HU2.out] at h1
                          rw [HD2.out] at h2
                          have h3 := h1 (by omega)
                          have h4 := h2 (by omega) (by omega)
                          simp only [e] at h3
                          simp only [h3] at h4
                          cases h4
                        have HN : Aside0 (partLoop ltInt a i j dk = if i2 > j2 then (j2, dk) else partLoop ltInt a (i2 + 1) (j2 - 1) (swp dk i2 j2)) := ⟨by rw [partLoop_eq, HU2.out, HD2.out]⟩
                        by_cases hx : i2 > j2
                        · try (exfalso; omega)
                          all_goals
                            have e1 : Aside0 (partLoop ltInt a (i21 + 1) (j21 - 1) d2 = (j2, dk)) := ⟨by rw [← HO.out, HN.out, if_pos hx]⟩
                            have hst : ∀ q, ((wr.drewN q).setCell ⟨blk, off + j2, none⟩ (.int .u64 (G a))).cell? ⟨blk, off + a, none⟩ = some (.int .u64 (G a)) := fun q => swp_cell (wr := wr.drewN q) hcw (a := j2) (p := a) (by omega)
                            go_wp2
                            go_region
                            all_goals go_wp2
                            go_ret2
                            refine ⟨?_, ?_⟩
                            · rw [HR.out, e1.out]; rfl
                            · rw [HR.out, e1.out]
                              have h1 := at_swp HA3.out HH.out HS.out hblk (nq + 1) (j := j2) (k := a) (by omega) (by omega)
                              rw [← HG.out, ← HG.out] at h1
                              exact h1
                        · try (exfalso; omega)
                          all_goals
                            have hst : ∀ q, ((wr.drewN q).setCell ⟨blk, off + i2, none⟩ (.int .u64 (G j2))).cell? ⟨blk, off + j2, none⟩ = some (.int .u64 (G j2)) := fun q => swp_cell (wr := wr.drewN q) hcw (a := i2) (p := j2) (by omega)
                            go_wp2
                            go_region
                            all_goals go_wp2
                            go_roundw
                            case rel =>
                              refine ⟨i2 + 1, j2 - 1, swp dk i2 j2, by go_num, by congr 1; omega, by omega, by omega, by omega, ⟨(size_swp dk i2 j2).trans HS.out⟩, ⟨?_⟩, ⟨by rw [← HO.out, HN.out, if_neg hx]⟩⟩
                              have h1 := at_swp HA3.out HH.out HS.out hblk (nq + 1) (j := i2) (k := j2) (by omega) (by omega)
                              rw [← HG.out, ← HG.out] at h1
                              exact h1
                            case measure => simp [nOf]; omega
end Go.Proofs.Ytliclajcifeneaa.Hand
namespace Go.Proofs.Ytliclajcifeneaa.Hand
set_option linter.unusedVariables false
set_option linter.unusedSimpArgs false
open Go.RowKit Go.Sort Go.Proofs.YtliclajcifeneaaW.PrintWords
set_option linter.unusedVariables false
set_option linter.unusedSimpArgs false
abbrev eI : Int → Value := Value.int .i64
/-- A counter of its own block. -/
structure Cnt (w : World) (s blk off : Nat) (d : Array Int) : Prop where
  row : Holds eU w blk off d
  cnt : Holds eI w s 0 #[0]
  ne : blk ≠ s
  lt : blk < w.heap.size
  slt : s < w.heap.size
section
variable {w wr : World} {s blk off : Nat} {d : Array Int} {S : Int}
theorem Cnt.cell (h : Cnt w s blk off d) (ha : At eI w s 0 #[S] wr) : wr.cell? ⟨s, 0, none⟩ = some (.int .i64 S) ∧ wr.frozen? ⟨s, 0, none⟩ = false := by
  have := (ha.holds h.cnt rfl h.slt).1 0 (by simp)
  simpa using this
theorem Cnt.get (h : Cnt w s blk off d) (ha : At eI w s 0 #[S] wr) {t : Nat} (ht : t < d.size) : wr.cell? ⟨blk, off + t, none⟩ = some (.int .u64 d[t]!) := by
  obtain ⟨n, os, rfl⟩ := ha
  have h1 : blk < (putRow eI (Sort.ahead w n) s 0 #[S]).heap.size := by simpa using h.lt
  rw [cell?_grow _ _ _ h1, cell?_putRow_other _ _ _ _ _ _ (Or.inl h.ne)]
  exact (h.row t ht).1
theorem Cnt.set (h : Cnt w s blk off d) (ha : At eI w s 0 #[S] wr) (q : Nat) (T : Int) : At eI w s 0 #[T] ((wr.drewN q).setCell ⟨s, 0, none⟩ (.int .i64 T)) := by
  refine ha.step h.slt rfl ⟨q, ?_⟩
  have hw := (ha.holds h.cnt rfl h.slt).1
  have e := putRow_self eI (Sort.ahead wr q) s 0 #[S] (holds_ahead _ _ _ _ _ _ hw)
  have e2 := putRow_set eI (Sort.ahead wr q) s 0 #[S] 0 T (by simp)
  rw [e] at e2
  exact e2
theorem order2_calls (cap a b : Nat) (hC : Cnt w s blk off d) (hA : At eI w s 0 #[S] wr) (h0 : 0 ≤ S) (h1 : S ≤ 100) (ha : a < d.size) (hb : b < d.size) (hsz : d.size < 4611686018427387904) :
    Calls Try.prog 91 #[.slice (some ⟨blk, off, none⟩) d.size cap, .int .i64 a, .int .i64 b, .pointer (some ⟨s, 0, none⟩)] wr fun e w' =>
      ∃ (x y : Nat) (T : Int), e = .returned (.tuple #[.int .i64 x, .int .i64 y]) ∧ (x = a ∧ y = b ∨ x = b ∧ y = a) ∧ S ≤ T ∧ T ≤ S + 1 ∧ At eI w s 0 #[T] w' := by
  obtain ⟨hc, hf⟩ := hC.cell hA
  have ca := hC.get hA ha
  have cb := hC.get hA hb
  obtain ⟨A, hAv⟩ : ∃ A : Int, A = d[a]! := ⟨_, rfl⟩
  obtain ⟨B, hBv⟩ : ∃ B : Int, B = d[b]! := ⟨_, rfl⟩
  rw [← hAv] at ca
  rw [← hBv] at cb
  clear hAv hBv
  have HA := Aside0.mk hA
  have HC := Aside0.mk hC
  clear hA hC
  go_enter Try.func91, Try.ntmps91
  go_wp2
  go_quiet (first | (go_at_call 66; refine Calls.quiet_of_same (uLess_calls _ _ _)))
  go_wp2
  · go_ret2
    refine ⟨b, a, S + 1, rfl, Or.inr ⟨rfl, rfl⟩, by omega, by omega, ?_⟩
    exact HC.out.set HA.out _ _
  · go_ret2
    exact ⟨a, b, S, rfl, Or.inl ⟨rfl, rfl⟩, by omega, by omega, HA.out.ahead _⟩
theorem median_calls (cap a b c : Nat) (hC : Cnt w s blk off d) (hA : At eI w s 0 #[S] wr) (h0 : 0 ≤ S) (h1 : S ≤ 90) (ha : a < d.size) (hb : b < d.size) (hc : c < d.size) (hsz : d.size < 4611686018427387904) :
    Calls Try.prog 85 #[.slice (some ⟨blk, off, none⟩) d.size cap, .int .i64 a, .int .i64 b, .int .i64 c, .pointer (some ⟨s, 0, none⟩)] wr fun e w' =>
      ∃ (x : Nat) (T : Int), e = .returned (.int .i64 x) ∧ (x = a ∨ x = b ∨ x = c) ∧ S ≤ T ∧ T ≤ S + 3 ∧ At eI w s 0 #[T] w' := by
  have HA := Aside0.mk hA
  have HC := Aside0.mk hC
  clear hA hC
  go_enter Try.func85, Try.ntmps85
  go_wp2_with (first | (go_at_call 91; (with_reducible refine (order2_calls cap a b HC.out HA.out h0 (by omega) ha hb hsz).mono ?_); rintro e w1 ⟨x1, y1, T1, rfl, hx1, hS1, hT1, hA1⟩; have HA1 := Aside0.mk hA1; clear hA1) | (go_at_call 91; (with_reducible refine (order2_calls cap y1 c HC.out HA1.out (by omega) (by omega) (by omega) hc hsz).mono ?_); rintro e w2 ⟨x2, y2, T2, rfl, hx2, hS2, hT2, hA2⟩; have HA2 := Aside0.mk hA2; clear hA2) | (go_at_call 91; (with_reducible refine (order2_calls cap x1 x2 HC.out HA2.out (by omega) (by omega) (by omega) (by omega) hsz).mono ?_); rintro e w3 ⟨x3, y3, T3, rfl, hx3, hS3, hT3, hA3⟩; have HA3 := Aside0.mk hA3; clear hA3))
  go_ret
  exact ⟨y3, T3, rfl, by omega, by omega, by omega, HA3.out⟩
end
theorem Cnt.made {w : World} {blk off : Nat} {d : Array Int} (t : TypeId) (h : Holds eU w blk off d) (hb : blk < w.heap.size) : Cnt (w.alloc (.cells #[.int .i64 0] t)) w.heap.size blk off d := by
  refine ⟨?_, ?_, by omega, by rw [alloc_eq_grow]; simp; omega, by rw [alloc_eq_grow]; simp⟩
  · rw [alloc_eq_grow]; exact holds_grow _ _ _ _ _ _ hb h
  · intro j hj
    obtain rfl : j = 0 := by simpa using hj
    simp
/-- What the counter was in is a new block. -/
theorem cnt_gone {w wr : World} {t : TypeId} {S : Int} (h : At eI (w.alloc (.cells #[.int .i64 0] t)) w.heap.size 0 #[S] wr) : ∃ n os, wr = grow (Sort.ahead w n) os := by
  obtain ⟨n, os, rfl⟩ := h
  rw [alloc_eq_grow, ahead_grow]
  obtain ⟨os2, _, e⟩ := putRow_grow_new eI (Sort.ahead w n) #[.cells #[.int .i64 0] t] w.heap.size 0 #[S] (Nat.le_refl _)
  rw [e, grow_grow]
  exact ⟨n, _, rfl⟩
set_option maxRecDepth 100000 in
theorem pivot_calls (blk off cap a b : Nat) (d : Array Int) (w : World) (hH : Holds eU w blk off d) (hblk : blk < w.heap.size) (hab : a + 8 ≤ b) (hab2 : b < a + 50) (hb : b ≤ d.size) (hsz : d.size < 4611686018427387904) :
    Calls Try.prog 63 #[.slice (some ⟨blk, off, none⟩) d.size cap, .int .i64 a, .int .i64 b] w fun e w' =>
      ∃ (p : Nat) (h : Int), e = .returned (.tuple #[.int .i64 p, .int .i64 h]) ∧ a ≤ p ∧ p < b ∧ (h = 0 ∨ h = 1) ∧ ∃ n os, w' = grow (Sort.ahead w n) os := by
  have HC := Aside0.mk (Cnt.made 3 hH hblk)
  have HA := Aside0.mk (At.refl HC.out.cnt)
  clear hH
  obtain ⟨I, hI⟩ : ∃ I : Nat, I = a + (b - a) / 4 * 1 := ⟨_, rfl⟩
  obtain ⟨J, hJ⟩ : ∃ J : Nat, J = a + (b - a) / 4 * 2 := ⟨_, rfl⟩
  obtain ⟨K, hK⟩ : ∃ K : Nat, K = a + (b - a) / 4 * 3 := ⟨_, rfl⟩
  have eI1 : ((a : Int) + ((b : Int) - (a : Int)) / 4) = (I : Int) := by omega
  have eJ1 : ((a : Int) + ((b : Int) - (a : Int)) / 4 * 2) = (J : Int) := by omega
  have eK1 : ((a : Int) + ((b : Int) - (a : Int)) / 4 * 3) = (K : Int) := by omega
  have bI : a ≤ I ∧ I < b := by omega
  have bJ : a ≤ J ∧ J < b := by omega
  have bK : a ≤ K ∧ K < b := by omega
  clear hI hJ hK
  go_enter Try.func63, Try.ntmps63
  go_wp2_with (go_at_call 85; (with_reducible refine (median_calls cap I J K HC.out HA.out (by omega) (by omega) (by omega) (by omega) (by omega) hsz).mono ?_); rintro e w1 ⟨x1, T1, rfl, hx1, hS1, hT1, hA1⟩; have hcell := (HC.out.cell hA1).1; have HA1 := Aside0.mk hA1; clear hA1)
  all_goals
    go_ret2
    refine ⟨x1, _, rfl, by omega, by omega, ?_, cnt_gone HA1.out⟩
    first
    | exact Or.inl rfl
    | exact Or.inr rfl | (exfalso; have h : (T1 == 12) = true := by assumption; simp only [beq_iff_eq] at h; omega)
end Go.Proofs.Ytliclajcifeneaa.Hand
namespace Go.Proofs.Ytliclajcifeneaa.Hand
set_option linter.unusedVariables false
set_option linter.unusedSimpArgs false
open Go.RowKit Go.Sort Go.Proofs.YtliclajcifeneaaW.PrintWords
set_option linter.unusedVariables false
set_option linter.unusedSimpArgs false
/-- How many bits a small number has. -/
def bl (x : Nat) : Nat := if x = 0 then 0 else if x < 2 then 1 else if x < 4 then 2 else if x < 8 then 3 else if x < 16 then 4 else 5
set_option maxRecDepth 100000 in
theorem len64_calls (x : Nat) (hx : x ≤ 16) (w : World) : Calls Try.prog 70 #[.int .u64 x] w fun e w' => e = .returned (.int .i64 (bl x)) ∧ w' = w := by
  have h : x = 0 ∨ x = 1 ∨ x = 2 ∨ x = 3 ∨ x = 4 ∨ x = 5 ∨ x = 6 ∨ x = 7 ∨ x = 8 ∨ x = 9 ∨ x = 10 ∨ x = 11 ∨ x = 12 ∨ x = 13 ∨ x = 14 ∨ x = 15 ∨ x = 16 := by omega
  rcases h with rfl | rfl | rfl | rfl | rfl | rfl | rfl | rfl | rfl | rfl | rfl | rfl | rfl | rfl | rfl | rfl | rfl
  all_goals
    go_enter Try.func70, Try.ntmps70
    go_wp2
    go_ret
    exact ⟨by kernel_rfl, rfl⟩
theorem len_calls (x : Nat) (hx : x ≤ 16) (w : World) : Calls Try.prog 51 #[.int .u64 x] w fun e w' => e = .returned (.int .i64 (bl x)) ∧ w' = w := by
  go_enter Try.func51, Try.ntmps51
  go_wp2_with (go_at_call 70; (with_reducible refine (len64_calls x hx _).mono ?_); rintro e w' ⟨rfl, rfl⟩)
  go_ret
  exact ⟨rfl, rfl⟩
theorem pow_calls (x : Nat) (h8 : 8 ≤ x) (hx : x ≤ 16) (w : World) : Calls Try.prog 82 #[.int .i64 x] w fun e w' => e = .returned (.int .u64 (if x = 16 then 32 else 16)) ∧ w' = w := by
  have h : bl x = if x = 16 then 5 else 4 := by unfold bl; split <;> (try omega); split <;> (try omega); split <;> (try omega); split <;> (try omega); split <;> (split <;> omega)
  by_cases h16 : x = 16
  · rw [if_pos h16] at h ⊢
    clear h16
    have hl := fun W => len_calls x hx W
    rw [h] at hl
    go_enter Try.func82, Try.ntmps82
    go_wp2_with (go_at_call 51; (with_reducible refine (hl _).mono ?_); rintro e w' ⟨rfl, rfl⟩)
    go_ret
    exact ⟨rfl, rfl⟩
  · rw [if_neg h16] at h ⊢
    have hl := fun W => len_calls x hx W
    rw [h] at hl
    go_enter Try.func82, Try.ntmps82
    go_wp2_with (go_at_call 51; (with_reducible refine (hl _).mono ?_); rintro e w' ⟨rfl, rfl⟩)
    go_ret
    exact ⟨rfl, rfl⟩
/-- A store into a row of one. -/
theorem one_put {w : World} {s : Nat} {v : Int} (h : Holds eU w s 0 #[v]) (x : Int) : w.setCell ⟨s, 0, none⟩ (.int .u64 x) = putRow eU w s 0 #[x] := by
  have e := putRow_set eU w s 0 #[v] 0 x (by simp)
  rw [putRow_self _ _ _ _ _ h] at e
  exact e
theorem one_holds {w : World} {s : Nat} {v : Int} (n : Nat) (h : Holds eU w s 0 #[v]) (x : Int) : Holds eU (putRow eU (Sort.ahead w n) s 0 #[x]) s 0 #[x] := holds_putRow eU _ s 0 #[v] #[x] (holds_ahead _ _ _ _ _ _ h) rfl
theorem one_facts {w : World} {s : Nat} {v : Int} (h : Holds eU w s 0 #[v]) : w.cell? ⟨s, 0, none⟩ = some (.int .u64 v) ∧ w.frozen? ⟨s, 0, none⟩ = false := by simpa using h 0 (by simp)
theorem next_calls (s : Nat) (v : Int) (w : World) (hS : Holds eU w s 0 #[v]) (h0 : 0 ≤ v) (h1 : v < 18446744073709551616) :
    Calls Try.prog 83 #[.pointer (some ⟨s, 0, none⟩)] w fun e w' => ∃ v' n, e = .returned (.int .u64 v') ∧ 0 ≤ v' ∧ v' < 18446744073709551616 ∧ w' = putRow eU (Sort.ahead w n) s 0 #[v'] := by
  obtain ⟨hc, hf⟩ := one_facts hS
  have HS := Aside0.mk hS
  clear hS
  go_enter Try.func83, Try.ntmps83
  go_wp2
  go_region
  all_goals go_wp2
  generalize hx1 : bits BinOp.xor IntKind.u64 v (IntKind.u64.wrap (v * 8192)) = x1
  generalize hw1 : (World.setCell _ _ (Value.int IntKind.u64 x1)) = w1
  have e1 := (one_put HS.out x1).symm.trans hw1
  have HS1 : Aside0 (Holds eU w1 s 0 #[x1]) := ⟨by rw [← e1]; exact one_holds 0 HS.out x1⟩
  have E1 := Aside0.mk e1
  have r1 : 0 ≤ x1 ∧ x1 < 18446744073709551616 := by have := bits_lo_u64 .xor v (IntKind.u64.wrap (v * 8192)); have := bits_hi_u64 .xor v (IntKind.u64.wrap (v * 8192)); omega
  clear hc hf hw1 e1 hx1
  obtain ⟨hc, hf⟩ := one_facts HS1.out
  go_region
  all_goals go_wp2
  generalize hx2 : bits BinOp.xor IntKind.u64 x1 (x1 / 128) = x2
  generalize hw2 : (World.setCell _ _ (Value.int IntKind.u64 x2)) = w2
  have e2 := (one_put HS1.out x2).symm.trans hw2
  have HS2 : Aside0 (Holds eU w2 s 0 #[x2]) := ⟨by rw [← e2]; exact one_holds 0 HS1.out x2⟩
  have E2 := Aside0.mk e2
  have r2 : 0 ≤ x2 ∧ x2 < 18446744073709551616 := by have := bits_lo_u64 .xor x1 (x1 / 128); have := bits_hi_u64 .xor x1 (x1 / 128); omega
  clear hc hf hw2 e2 hx2
  obtain ⟨hc, hf⟩ := one_facts HS2.out
  go_region
  all_goals go_wp2
  generalize hx3 : bits BinOp.xor IntKind.u64 x2 (IntKind.u64.wrap (x2 * 131072)) = x3
  generalize hw3 : (World.setCell _ _ (Value.int IntKind.u64 x3)) = w3
  have e3 := (one_put HS2.out x3).symm.trans hw3
  have HS3 : Aside0 (Holds eU w3 s 0 #[x3]) := ⟨by rw [← e3]; exact one_holds 0 HS2.out x3⟩
  have E3 := Aside0.mk e3
  have r3 : 0 ≤ x3 ∧ x3 < 18446744073709551616 := by have := bits_lo_u64 .xor x2 (IntKind.u64.wrap (x2 * 131072)); have := bits_hi_u64 .xor x2 (IntKind.u64.wrap (x2 * 131072)); omega
  clear hc hf hw3 e3 hx3
  obtain ⟨hc, hf⟩ := one_facts HS3.out
  go_wp2
  go_ret
  refine ⟨x3, 3, rfl, r3.1, r3.2, ?_⟩
  show Sort.ahead w3 3 = _
  rw [putRow_ahead, ← E3.out, ← E2.out, ← E1.out, putRow_putRow eU w s 0 #[x1] #[x2] rfl, putRow_putRow eU w s 0 #[x2] #[x3] rfl]
end Go.Proofs.Ytliclajcifeneaa.Hand
namespace Go.Proofs.Ytliclajcifeneaa.Hand
set_option linter.unusedVariables false
set_option linter.unusedSimpArgs false
open Go.RowKit Go.Sort Go.Proofs.YtliclajcifeneaaW.PrintWords
set_option linter.unusedVariables false
set_option linter.unusedSimpArgs false
section
variable {w wr : World} {blk off s : Nat} {d : Array Int} {v : Int}
theorem at_side (h : At eU w blk off d wr) (hs : w.heap.size ≤ s) (n : Nat) (x : Int) : At eU w blk off d (putRow eU (Sort.ahead wr n) s 0 #[x]) := by
  obtain ⟨m, os, rfl⟩ := h
  rw [ahead_grow]
  obtain ⟨os2, _, e⟩ := putRow_grow_new eU (Sort.ahead (putRow eU (Sort.ahead w m) blk off d) n) os s 0 #[x] (by simpa using hs)
  rw [e, ← putRow_ahead, ahead_ahead]
  exact ⟨_, _, rfl⟩
theorem holds_side (h : Holds eU wr s 0 #[v]) (hne : blk ≠ s) (q i j : Nat) (x y : Value) : Holds eU (((wr.drewN q).setCell ⟨blk, i, none⟩ x).setCell ⟨blk, j, none⟩ y) s 0 #[v] := by
  intro t ht
  obtain ⟨h1, h2⟩ := h t ht
  refine ⟨?_, ?_⟩
  · rw [World.cell?_setCell_other _ _ _ _ (fun e => hne (by injection e)), World.cell?_setCell_other _ _ _ _ (fun e => hne (by injection e))]
    exact h1
  · rw [World.frozen?_setCell, World.frozen?_setCell]
    exact h2
theorem at_alloc (h : Holds eU w blk off d) (hb : blk < w.heap.size) (o : Obj) : At eU w blk off d (w.alloc o) := (At.refl h).same h rfl hb ⟨0, #[o], by rw [alloc_eq_grow]; rfl⟩
end
/-- The lowest bits of a number are below the power. -/
theorem and_low (v : Int) (h0 : 0 ≤ v) (h1 : v < 18446744073709551616) (m : Nat) (hm : m < 100) : ∃ o : Nat, o ≤ m ∧ bits BinOp.and IntKind.u64 v (m : Int) = (o : Int) := by
  refine ⟨v.toNat &&& m, Nat.and_le_right, ?_⟩
  rw [u64_and v m h0 h1 (by omega) (by omega)]
  simp
set_option maxHeartbeats 4000000 in
set_option maxRecDepth 100000 in
theorem break_calls (blk off cap a b : Nat) (d : Array Int) (w : World) (hH : Holds eU w blk off d) (hblk : blk < w.heap.size) (h8 : a + 8 ≤ b) (h16 : b ≤ a + 16) (hb : b ≤ d.size) (hsz : d.size < 4611686018427387904) :
    Calls Try.prog 62 #[.slice (some ⟨blk, off, none⟩) d.size cap, .int .i64 a, .int .i64 b] w fun e w' =>
      e = .returned (.tuple #[]) ∧ ∃ d', PermIn a b d d' ∧ At eU w blk off d' w' := by
  have HH := Aside0.mk hH
  clear hH
  obtain ⟨L, hL⟩ : ∃ L : Nat, L = b - a := ⟨_, rfl⟩
  have hL1 : (b : Int) - (a : Int) = (L : Int) := by omega
  have hL8 : 8 ≤ L := by omega
  have hL16 : L ≤ 16 := by omega
  obtain ⟨I, hI⟩ : ∃ I : Nat, I = a + L / 4 * 2 - 1 := ⟨_, rfl⟩
  have hI1 : (a : Int) + (L : Int) / 4 * 2 - 1 = (I : Int) := by omega
  have hI2 : (a : Int) + (L : Int) / 4 * 2 = (I : Int) + 1 := by omega
  have bI : a ≤ I ∧ I + 2 < b := by omega
  clear hI hL
  obtain ⟨m, hm, hm2, hp⟩ : ∃ m : Nat, m ≤ 31 ∧ (L = 16 ∨ m ≤ 15) ∧ ∀ W, Calls Try.prog 82 #[.int .i64 L] W fun e w' => e = .returned (.int .u64 ((m : Int) + 1)) ∧ w' = W := by
    by_cases h : L = 16
    · exact ⟨31, by omega, Or.inl h, fun W => (pow_calls L hL8 hL16 W).mono (fun e w' he => by rw [if_pos h] at he; exact he)⟩
    · exact ⟨15, by omega, Or.inr (by omega), fun W => (pow_calls L hL8 hL16 W).mono (fun e w' he => by rw [if_neg h] at he; exact he)⟩
  have hwr : IntKind.u64.wrap (m : Int) = (m : Int) := by rw [IntKind.wrap_u64]; omega
  have HX : Aside0 (At eU w blk off d (w.alloc (.cells #[.int .u64 (L : Int)] 117))) := ⟨at_alloc HH.out hblk _⟩
  have HS : Aside0 (Holds eU (w.alloc (.cells #[.int .u64 (L : Int)] 117)) w.heap.size 0 #[(L : Int)]) := ⟨fun j hj => by
    obtain rfl : j = 0 := by simpa using hj
    simp⟩
  have HP := Aside0.mk hp
  clear hp
  have HAND := Aside0.mk (fun v (h0 : 0 ≤ v) (h1 : v < 18446744073709551616) => and_low v h0 h1 m (by omega))
  go_enter Try.func62, Try.ntmps62
  go_wp2_with (go_at_call 82; (with_reducible refine (HP.out _).mono ?_); rintro e w1 ⟨rfl, rfl⟩)
  go_loopw [9] (fun vi wr => ∃ (x : Nat) (dk : Array Int) (v : Int), vi = .int .i64 x ∧ I ≤ x ∧ x ≤ I + 3 ∧ 0 ≤ v ∧ v < 18446744073709551616 ∧ Aside0 (PermIn a b d dk) ∧ Aside0 (At eU w blk off dk wr) ∧ Aside0 (Holds eU wr w.heap.size 0 #[v])) (fun vi _ => I + 3 - (nOf vi).toNat)
  case atStart => exact ⟨I, d, L, rfl, Nat.le_refl _, by omega, by omega, by omega, ⟨permIn_refl _ _ _⟩, HX, HS⟩
  case round =>
    obtain ⟨x, dk, v, rfl, hx1, hx2, hv0, hv1, HP1, HA, HV⟩ := hrel
    have HD : Aside0 (dk.size = d.size) := ⟨HP1.out.1⟩
    by_cases hx : x = I + 3
    · go_wp2
      go_end0
      exact ⟨rfl, dk, HP1.out, HA.out⟩
    · go_wp2_with (go_at_call 83; (with_reducible refine (next_calls w.heap.size v _ HV.out hv0 hv1).mono ?_); rintro e w2 ⟨v2, n, rfl, g0, g1, hw⟩; obtain ⟨o, ho, ho2⟩ := HAND.out v2 g0 g1; have ho3 := ho2; have HA2 : Aside0 (At eU w blk off dk w2) := ⟨by rw [hw]; exact at_side HA.out (Nat.le_refl _) n v2⟩; have HV2 : Aside0 (Holds eU w2 w.heap.size 0 #[v2]) := ⟨by rw [hw]; exact one_holds n HV.out v2⟩; clear hw ho2)
      all_goals
        first | (have hlo : L ≤ o := (by assumption); obtain ⟨o2, ho4⟩ : ∃ o2 : Nat, (o : Int) - (L : Int) = (o2 : Int) := ⟨o - L, by omega⟩; have hb2 : o2 < L := by omega) | (have hlo : ¬ L ≤ o := (by assumption); obtain ⟨o2, rfl⟩ : ∃ o2 : Nat, o2 = o := ⟨o, rfl⟩; have hb2 : o2 < L := by omega)
        obtain ⟨G, hG, hcw, hfw⟩ := row_fam HA2.out HH.out HD.out hblk
        have HG := Aside0.mk hG
        clear hG
        have hst0 : (w2.setCell ⟨blk, off + x, none⟩ (.int .u64 (G (a + o2)))).cell? ⟨blk, off + (a + o2), none⟩ = some (.int .u64 (G (a + o2))) := swp_cell hcw (a := x) (p := a + o2) (by omega)
        go_region
        all_goals go_wp2
        go_roundw
        case rel =>
          have h1 := at_swp HA2.out HH.out HD.out hblk 1 (j := x) (k := a + o2) (by omega) (by omega)
          rw [← HG.out, ← HG.out] at h1
          exact ⟨x + 1, swp dk x (a + o2), v2, by go_num, by omega, by omega, g0, g1, ⟨permIn_trans _ _ _ _ _ HP1.out (swp_permIn dk a b x (a + o2) (by omega) (by omega) (by omega) (by omega) (by rw [HD.out]; exact hb))⟩, ⟨h1⟩, ⟨holds_side HV2.out (by omega) 1 _ _ _ _⟩⟩
        case measure => simp [nOf]; omega
end Go.Proofs.Ytliclajcifeneaa.Hand
namespace Go.Proofs.Ytliclajcifeneaa.Hand
set_option linter.unusedVariables false
set_option linter.unusedSimpArgs false
open Go.RowKit Go.Sort Go.Proofs.YtliclajcifeneaaW.PrintWords
set_option linter.unusedVariables false
set_option linter.unusedSimpArgs false
set_option maxRecDepth 100000 in
theorem uPartial_calls (blk off cap a b : Nat) (d : Array Int) (w : World) (hH : Holds eU w blk off d) (hblk : blk < w.heap.size) (hab : a < b) (hab2 : b < a + 50) (hb : b ≤ d.size) (hsz : d.size < 4611686018427387904) :
    Calls Try.prog 65 #[.slice (some ⟨blk, off, none⟩) d.size cap, .int .i64 a, .int .i64 b] w fun e w' =>
      ∃ r, e = .returned (.bool r) ∧ (r = true → SortedIn ltInt a b d) ∧ At eU w blk off d w' := by
  have HH := Aside0.mk hH
  clear hH
  go_enter Try.func65, Try.ntmps65
  go_wp2
  go_loopw [7, 8] (fun vi vj wr => vi = .int .i64 ((a : Int) + 1) ∧ vj = .int .i64 0 ∧ Aside0 (At eU w blk off d wr)) (fun _ _ _ => 0)
  case atStart => exact ⟨by go_num, rfl, ⟨At.refl HH.out⟩⟩
  case round =>
    obtain ⟨rfl, rfl, HA⟩ := hrel
    go_wp2
    go_loopw [7] (fun vi wr => ∃ i : Nat, vi = .int .i64 i ∧ a < i ∧ i ≤ b ∧ Aside0 (At eU w blk off d wr) ∧ Aside0 (SortedIn ltInt a i d)) (fun vi _ => b - (nOf vi).toNat)
    case atStart => exact ⟨a + 1, by go_num, by omega, by omega, HA, ⟨fun i j h1 h2 h3 => by omega⟩⟩
    case round =>
      obtain ⟨i, rfl, hi, hib, HA2, HS⟩ := hrel
      obtain ⟨G, hG, hcw, hfw⟩ := row_fam HA2.out HH.out rfl hblk
      have HG := Aside0.mk hG
      clear hG
      go_wp2
      by_cases hc : i < b
      all_goals go_quiet (first | (go_at_call 66; refine Calls.quiet_of_same (uLess_calls _ _ _)))
      all_goals go_wp2
      all_goals first | (go_roundw; (case rel => exact ⟨i + 1, by go_num, by omega, by omega, ⟨at_drew HA2.out _⟩, ⟨SortedIn.snoc swo_ltInt HS.out (by rw [← HG.out, ← HG.out]; simpa using (show (!ltInt (G i) (G (i - 1))) = true by assumption))⟩⟩); (case measure => simp [nOf]; omega)) | (go_ret; exact ⟨true, rfl, fun _ => by rw [show b = i by omega]; exact HS.out, at_drew HA2.out _⟩) | (go_ret; exact ⟨false, rfl, (fun h => Bool.noConfusion h), at_drew HA2.out _⟩)
end Go.Proofs.Ytliclajcifeneaa.Hand
namespace Go.Proofs.Ytliclajcifeneaa.Hand
set_option linter.unusedVariables false
set_option linter.unusedSimpArgs false
open Go.RowKit Go.Sort Go.Proofs.YtliclajcifeneaaW.PrintWords
set_option linter.unusedVariables false
set_option linter.unusedSimpArgs false
section
variable {w0 wr : World} {blk off : Nat} {d0 d : Array Int}
theorem at_join (h : At eU w0 blk off d wr) (h0 : Holds eU w0 blk off d0) (hs : d.size = d0.size) (hb : blk < w0.heap.size) {d' : Array Int} (hs' : d'.size = d.size) {w' : World} (h1 : At eU wr blk off d' w') : At eU w0 blk off d' w' := by
  obtain ⟨m, os, e⟩ := h1
  exact h.stepG hb hs' ⟨m, os, e⟩
theorem pIns (h : At eU w0 blk off d wr) (h0 : Holds eU w0 blk off d0) (hs : d.size = d0.size) (hb : blk < w0.heap.size) (hsz : d0.size ≤ 16) {a b : Nat} (cap : Nat) (hab : a ≤ b) (hbd : b ≤ d0.size) :
    Calls Try.prog 60 #[.slice (some ⟨blk, off, none⟩) d0.size cap, .int .i64 a, .int .i64 b] wr fun e w' => e = .returned (.tuple #[]) ∧ ∃ d', PermIn a b d d' ∧ SortedIn ltInt a b d' ∧ At eU w0 blk off d' w' := by
  obtain ⟨h1, h2⟩ := h.holds h0 hs hb
  rw [← hs]
  refine (uIns_calls blk off cap a b d wr h1 h2 hab (by omega) (by omega)).mono ?_
  rintro e w' ⟨rfl, hA⟩
  obtain ⟨p1, p2⟩ := insertionSort_holds swo_ltInt d a b hab (by omega)
  exact ⟨rfl, _, p1, p2, at_join h h0 hs hb p1.1 hA⟩
theorem pBreak (h : At eU w0 blk off d wr) (h0 : Holds eU w0 blk off d0) (hs : d.size = d0.size) (hb : blk < w0.heap.size) (hsz : d0.size ≤ 16) {a b : Nat} (cap : Nat) (hab : a + 8 ≤ b) (hbd : b ≤ d0.size) :
    Calls Try.prog 62 #[.slice (some ⟨blk, off, none⟩) d0.size cap, .int .i64 a, .int .i64 b] wr fun e w' => e = .returned (.tuple #[]) ∧ ∃ d', PermIn a b d d' ∧ At eU w0 blk off d' w' := by
  obtain ⟨h1, h2⟩ := h.holds h0 hs hb
  rw [← hs]
  refine (break_calls blk off cap a b d wr h1 h2 hab (by omega) (by omega) (by omega)).mono ?_
  rintro e w' ⟨rfl, d', p1, hA⟩
  exact ⟨rfl, d', p1, at_join h h0 hs hb p1.1 hA⟩
theorem pPivot (h : At eU w0 blk off d wr) (h0 : Holds eU w0 blk off d0) (hs : d.size = d0.size) (hb : blk < w0.heap.size) (hsz : d0.size ≤ 16) {a b : Nat} (cap : Nat) (hab : a + 8 ≤ b) (hbd : b ≤ d0.size) :
    Calls Try.prog 63 #[.slice (some ⟨blk, off, none⟩) d0.size cap, .int .i64 a, .int .i64 b] wr fun e w' =>
      ∃ (p : Nat) (c : Int), e = .returned (.tuple #[.int .i64 p, .int .i64 c]) ∧ a ≤ p ∧ p < b ∧ (c = 0 ∨ c = 1) ∧ At eU w0 blk off d w' := by
  obtain ⟨h1, h2⟩ := h.holds h0 hs hb
  rw [← hs]
  refine (pivot_calls blk off cap a b d wr h1 h2 hab (by omega) (by omega) (by omega)).mono ?_
  rintro e w' ⟨p, c, rfl, k1, k2, k3, n, os, rfl⟩
  exact ⟨p, c, rfl, k1, k2, k3, h.same h0 hs hb ⟨n, os, rfl⟩⟩
theorem pPartial (h : At eU w0 blk off d wr) (h0 : Holds eU w0 blk off d0) (hs : d.size = d0.size) (hb : blk < w0.heap.size) (hsz : d0.size ≤ 16) {a b : Nat} (cap : Nat) (hab : a < b) (hbd : b ≤ d0.size) :
    Calls Try.prog 65 #[.slice (some ⟨blk, off, none⟩) d0.size cap, .int .i64 a, .int .i64 b] wr fun e w' =>
      ∃ r, e = .returned (.bool r) ∧ (r = true → SortedIn ltInt a b d) ∧ At eU w0 blk off d w' := by
  obtain ⟨h1, h2⟩ := h.holds h0 hs hb
  rw [← hs]
  refine (uPartial_calls blk off cap a b d wr h1 h2 hab (by omega) (by omega) (by omega)).mono ?_
  rintro e w' ⟨r, rfl, k, hA⟩
  exact ⟨r, rfl, k, at_join h h0 hs hb rfl hA⟩
theorem pPartEq (h : At eU w0 blk off d wr) (h0 : Holds eU w0 blk off d0) (hs : d.size = d0.size) (hb : blk < w0.heap.size) (hsz : d0.size ≤ 16) {a b p : Nat} (cap : Nat) (ha0 : 0 < a) (hap : a ≤ p) (hpb : p < b) (hbd : b ≤ d0.size) (hB : Sort.Below ltInt a b d) (hnl : ltInt d[a - 1]! d[p]! = false) :
    Calls Try.prog 67 #[.slice (some ⟨blk, off, none⟩) d0.size cap, .int .i64 a, .int .i64 b, .int .i64 p] wr fun e w' =>
      ∃ (m : Nat) (d' : Array Int), e = .returned (.int .i64 m) ∧ a < m ∧ m ≤ b ∧ d'.size = d.size ∧ Sort.Below ltInt m b d' ∧ (∀ R, PermIn m b d' R → SortedIn ltInt m b R → PermIn a b d R ∧ SortedIn ltInt a b R) ∧ At eU w0 blk off d' w' := by
  obtain ⟨h1, h2⟩ := h.holds h0 hs hb
  rw [← hs]
  refine (uPartEq_calls blk off cap a b p d wr h1 h2 hap hpb (by omega) (by omega)).mono ?_
  rintro e w' ⟨rfl, hA⟩
  obtain ⟨k1, k2, k3, k4, k5⟩ := round_eq swo_ltInt (partitionEqual_holds ltInt) ha0 hap hpb (by omega) hB hnl (show partitionEqual ltInt d a b p = (_, _) from rfl)
  exact ⟨_, _, rfl, k1, k2, k3, k4, k5, at_join h h0 hs hb k3 hA⟩
theorem pPart (h : At eU w0 blk off d wr) (h0 : Holds eU w0 blk off d0) (hs : d.size = d0.size) (hb : blk < w0.heap.size) (hsz : d0.size ≤ 16) {a b p : Nat} (cap : Nat) (hap : a ≤ p) (hpb : p < b) (hbd : b ≤ d0.size) (hB : Sort.Below ltInt a b d) :
    Calls Try.prog 68 #[.slice (some ⟨blk, off, none⟩) d0.size cap, .int .i64 a, .int .i64 b, .int .i64 p] wr fun e w' =>
      ∃ (m : Nat) (y : Bool) (d' : Array Int), e = .returned (.tuple #[.int .i64 m, .bool y]) ∧ a ≤ m ∧ m < b ∧ d'.size = d.size ∧ Sort.Below ltInt a m d' ∧ Sort.Below ltInt (m + 1) b d' ∧
        (∀ L, PermIn a m d' L → SortedIn ltInt a m L → Sort.Below ltInt (m + 1) b L ∧ ∀ R, PermIn (m + 1) b L R → SortedIn ltInt (m + 1) b R → PermIn a b d R ∧ SortedIn ltInt a b R) ∧
        (∀ L, PermIn (m + 1) b d' L → SortedIn ltInt (m + 1) b L → Sort.Below ltInt a m L ∧ ∀ R, PermIn a m L R → SortedIn ltInt a m R → PermIn a b d R ∧ SortedIn ltInt a b R) ∧ At eU w0 blk off d' w' := by
  obtain ⟨h1, h2⟩ := h.holds h0 hs hb
  rw [← hs]
  refine (uPart_calls blk off cap a b p d wr h1 h2 hap hpb (by omega) (by omega)).mono ?_
  rintro e w' ⟨rfl, hA⟩
  obtain ⟨k1, k2, k3, k4, k5, k6, k7⟩ := round_part swo_ltInt (partition_holds ltInt) hap hpb (by omega) hB (show partition ltInt d a b p = (_, _, _) from rfl)
  exact ⟨_, _, _, rfl, k1, k2, k3, k4, k5, k6, k7, at_join h h0 hs hb k3 hA⟩
end
end Go.Proofs.Ytliclajcifeneaa.Hand
namespace Go.Proofs.Ytliclajcifeneaa.Hand
set_option linter.unusedVariables false
set_option linter.unusedSimpArgs false
open Go.RowKit Go.Sort Go.Proofs.YtliclajcifeneaaW.PrintWords
set_option linter.unusedVariables false
set_option linter.unusedSimpArgs false
/-- What a call of pdqsort does at up to n elements. -/
def PdqOk (n : Nat) : Prop := ∀ (blk off cap a b l : Nat) (w0 wr : World) (d0 d : Array Int), b - a ≤ n → a ≤ b → b ≤ d0.size → d0.size ≤ 16 → Sort.Below ltInt a b d → b - a ≤ l + 11 → l ≤ 64 →
  At eU w0 blk off d wr → Holds eU w0 blk off d0 → d.size = d0.size → blk < w0.heap.size →
  Calls Try.prog 50 #[.slice (some ⟨blk, off, none⟩) d0.size cap, .int .i64 a, .int .i64 b, .int .i64 l] wr fun e w' =>
    e = .returned (.tuple #[]) ∧ ∃ d', PermIn a b d d' ∧ SortedIn ltInt a b d' ∧ At eU w0 blk off d' w'
theorem PdqOk.left {n : Nat} (h : PdqOk n) (blk off cap a b l : Nat) (w0 wr : World) (d0 d : Array Int) (h1 : b - a ≤ n) (h2 : a ≤ b) (h3 : b ≤ d0.size) (h4 : d0.size ≤ 16) (h5 : Sort.Below ltInt a b d) (h6 : b - a ≤ l + 11) (h7 : l ≤ 64)
    (h8 : At eU w0 blk off d wr) (h9 : Holds eU w0 blk off d0) (h10 : d.size = d0.size) (h11 : blk < w0.heap.size) :
    Calls Try.prog 50 #[.slice (some ⟨blk, off, none⟩) d0.size cap, .int .i64 a, .int .i64 b, .int .i64 l] wr fun e w' =>
      e = .returned (.tuple #[]) ∧ ∃ d', PermIn a b d d' ∧ SortedIn ltInt a b d' ∧ At eU w0 blk off d' w' := h blk off cap a b l w0 wr d0 d h1 h2 h3 h4 h5 h6 h7 h8 h9 h10 h11
theorem PdqOk.right {n : Nat} (h : PdqOk n) (blk off cap a b l : Nat) (w0 wr : World) (d0 d : Array Int) (h1 : b - (a + 1) ≤ n) (h2 : a + 1 ≤ b) (h3 : b ≤ d0.size) (h4 : d0.size ≤ 16) (h5 : Sort.Below ltInt (a + 1) b d) (h6 : b - (a + 1) ≤ l + 11) (h7 : l ≤ 64)
    (h8 : At eU w0 blk off d wr) (h9 : Holds eU w0 blk off d0) (h10 : d.size = d0.size) (h11 : blk < w0.heap.size) :
    Calls Try.prog 50 #[.slice (some ⟨blk, off, none⟩) d0.size cap, .int .i64 ((a : Int) + 1), .int .i64 b, .int .i64 l] wr fun e w' =>
      e = .returned (.tuple #[]) ∧ ∃ d', PermIn (a + 1) b d d' ∧ SortedIn ltInt (a + 1) b d' ∧ At eU w0 blk off d' w' := h blk off cap (a + 1) b l w0 wr d0 d h1 h2 h3 h4 h5 h6 h7 h8 h9 h10 h11
set_option maxHeartbeats 8000000 in
set_option maxRecDepth 100000 in
theorem pdq_step (n : Nat) (ih : ∀ m, m < n → PdqOk m) : PdqOk n := by
  intro blk off cap a b l w0 wr d0 d hn hab hbd hsz hB hl hl2 hA h0 hs hblk
  have IH := Aside0.mk ih
  have HA0 := Aside0.mk hA
  have HH := Aside0.mk h0
  have HS0 := Aside0.mk hs
  have HB0 := Aside0.mk hB
  clear hA h0 hs hB ih
  go_enter Try.func50, Try.ntmps50
  go_wp2
  go_loopw [1, 2, 3, 8, 9] (fun va vb vl vx vy wk => ∃ (a1 b1 l1 : Nat) (x y : Bool) (dk : Array Int), va = .int .i64 a1 ∧ vb = .int .i64 b1 ∧ vl = .int .i64 l1 ∧ vx = .bool x ∧ vy = .bool y ∧ a ≤ a1 ∧ a1 ≤ b1 ∧ b1 ≤ b ∧ b1 - a1 ≤ l1 + 11 ∧ l1 ≤ l ∧ Aside0 (dk.size = d0.size) ∧ Aside0 (Sort.Below ltInt a1 b1 dk) ∧ Aside0 (At eU w0 blk off dk wk) ∧ Aside0 (∀ R, PermIn a1 b1 dk R → SortedIn ltInt a1 b1 R → PermIn a b d R ∧ SortedIn ltInt a b R)) (fun va vb _ _ _ _ => (nOf vb).toNat - (nOf va).toNat)
  case atStart => exact ⟨a, b, l, true, true, d, rfl, rfl, rfl, rfl, rfl, Nat.le_refl _, hab, Nat.le_refl _, hl, Nat.le_refl _, HS0, HB0, HA0, ⟨fun R h1 h2 => ⟨h1, h2⟩⟩⟩
  case round =>
    obtain ⟨a1, b1, l1, x, y, dk, rfl, rfl, rfl, rfl, rfl, ha1, hab1, hb1, hl1, hll, HS, HB, HA, HC⟩ := hrel
    by_cases h12 : b1 - a1 ≤ 12
    · go_wp2_with (go_at_call 60; (with_reducible refine (pIns HA.out HH.out HS.out hblk hsz cap hab1 (by omega)).mono ?_); rintro e w1 ⟨rfl, d1, p1, p2, hA1⟩; have HA1 := Aside0.mk hA1; have HP1 := Aside0.mk p1; have HP2 := Aside0.mk p2; clear hA1 p1 p2)
      (try simp only [Exit.inBlock, Exit.then]); refine bodyPost_ret (results_none rfl _ _ _) rfl ?_
      obtain ⟨q1, q2⟩ := HC.out d1 HP1.out HP2.out
      exact ⟨rfl, d1, q1, q2, HA1.out⟩
    · cases x with
      | true =>
        go_wp2_with (first | (go_at_call 63; (with_reducible refine (pPivot HA.out HH.out HS.out hblk hsz cap (by omega) (by omega)).mono ?_); rintro e w2 ⟨p, c, rfl, hp1, hp2, hc, hA2⟩; have HA2 := Aside0.mk hA2; have hc2 : (c == 2) = false := (by rcases hc with rfl | rfl <;> rfl); clear hA2) | (go_at_call 65; (with_reducible refine (pPartial HA2.out HH.out HS.out hblk hsz cap (by omega) (by omega)).mono ?_); rintro e w3 ⟨r, rfl, hr, hA3⟩; have HA3 := Aside0.mk hA3; have HR := Aside0.mk hr; clear hA3 hr))
        -- TAIL
        · (try simp only [Exit.inBlock, Exit.then]); refine bodyPost_ret (results_none rfl _ _ _) rfl ?_
          obtain ⟨q1, q2⟩ := HC.out dk (permIn_refl _ _ _) (HR.out (by assumption))
          exact ⟨rfl, dk, q1, q2, HA3.out⟩
        · obtain ⟨G, hG, hcw, hfw⟩ := row_fam HA3.out HH.out HS.out hblk
          have HG := Aside0.mk hG
          clear hG
          by_cases ha0 : 0 < a1
          · go_quiet (first | (go_at_call 66; refine Calls.quiet_of_same (uLess_calls _ _ _)))
            go_wp2_with (first | (go_at_call 67; (with_reducible refine (pPartEq (at_drew HA3.out _) HH.out HS.out hblk hsz cap ha0 hp1 hp2 (by omega) HB.out (by rw [← HG.out, ← HG.out]; simpa using (show (!ltInt (G (a1 - 1)) (G p)) = true by assumption))).mono ?_); rintro e w4 ⟨m, d4, rfl, hm1, hm2, hs4, hB4, hC4, hA4⟩; have HA4 := Aside0.mk hA4; have HS4 := Aside0.mk (hs4.trans HS.out); have HB4 := Aside0.mk hB4; have HC4 := Aside0.mk hC4; clear hA4 hs4 hB4 hC4) | (go_at_call 68; (with_reducible refine (pPart (at_drew HA3.out _) HH.out HS.out hblk hsz cap hp1 hp2 (by omega) HB.out).mono ?_); rintro e w4 ⟨m, y4, d4, rfl, hm1, hm2, hs4, hBl, hBr, hCl, hCr, hA4⟩; have HA4 := Aside0.mk hA4; have HS4 := Aside0.mk (hs4.trans HS.out); have HBL := Aside0.mk hBl; have HBR := Aside0.mk hBr; have HCL := Aside0.mk hCl; have HCR := Aside0.mk hCr; clear hA4 hs4 hBl hBr hCl hCr) | (go_at_call 50; (with_reducible refine ((IH.out (m - a1) (by omega)).left blk off cap a1 m l1 w0 _ d0 d4 (Nat.le_refl _) hm1 (by omega) hsz HBL.out (by omega) (by omega) HA4.out HH.out HS4.out hblk).mono ?_); rintro e w5 ⟨rfl, L, q1, q2, hA5⟩; have HA5 := Aside0.mk hA5; have HQ := Aside0.mk (HCL.out L q1 q2); have HS5 := Aside0.mk (q1.1.trans HS4.out); clear hA5 q1 q2) | (go_at_call 50; (with_reducible refine ((IH.out (b1 - (m + 1)) (by omega)).right blk off cap m b1 l1 w0 _ d0 d4 (Nat.le_refl _) (by omega) (by omega) hsz HBR.out (by omega) (by omega) HA4.out HH.out HS4.out hblk).mono ?_); rintro e w5 ⟨rfl, L, q1, q2, hA5⟩; have HA5 := Aside0.mk hA5; have HQ := Aside0.mk (HCR.out L q1 q2); have HS5 := Aside0.mk (q1.1.trans HS4.out); clear hA5 q1 q2))
            all_goals go_roundw
            all_goals first | (case rel => (first | (exact ⟨m, b1, l1, _, _, d4, rfl, rfl, rfl, rfl, rfl, by omega, by omega, by omega, by omega, by omega, HS4, HB4, HA4, ⟨fun R h1 h2 => (fun h => HC.out R h.1 h.2) (HC4.out R h1 h2)⟩⟩) | (exact ⟨m + 1, b1, l1, _, y4, L, by go_num, rfl, rfl, rfl, rfl, by omega, by omega, by omega, by omega, by omega, HS5, ⟨HQ.out.1⟩, HA5, ⟨fun R h1 h2 => (fun h => HC.out R h.1 h.2) (HQ.out.2 R h1 h2)⟩⟩) | (exact ⟨a1, m, l1, _, y4, L, rfl, rfl, rfl, rfl, rfl, by omega, by omega, by omega, by omega, by omega, HS5, ⟨HQ.out.1⟩, HA5, ⟨fun R h1 h2 => (fun h => HC.out R h.1 h.2) (HQ.out.2 R h1 h2)⟩⟩))) | (case measure => simp [nOf]; omega)
          · go_quiet (first | (go_at_call 66; refine Calls.quiet_of_same (uLess_calls _ _ _)))
            go_wp2_with (first | (go_at_call 67; (with_reducible refine (pPartEq (at_drew HA3.out _) HH.out HS.out hblk hsz cap ha0 hp1 hp2 (by omega) HB.out (by rw [← HG.out, ← HG.out]; simpa using (show (!ltInt (G (a1 - 1)) (G p)) = true by assumption))).mono ?_); rintro e w4 ⟨m, d4, rfl, hm1, hm2, hs4, hB4, hC4, hA4⟩; have HA4 := Aside0.mk hA4; have HS4 := Aside0.mk (hs4.trans HS.out); have HB4 := Aside0.mk hB4; have HC4 := Aside0.mk hC4; clear hA4 hs4 hB4 hC4) | (go_at_call 68; (with_reducible refine (pPart (at_drew HA3.out _) HH.out HS.out hblk hsz cap hp1 hp2 (by omega) HB.out).mono ?_); rintro e w4 ⟨m, y4, d4, rfl, hm1, hm2, hs4, hBl, hBr, hCl, hCr, hA4⟩; have HA4 := Aside0.mk hA4; have HS4 := Aside0.mk (hs4.trans HS.out); have HBL := Aside0.mk hBl; have HBR := Aside0.mk hBr; have HCL := Aside0.mk hCl; have HCR := Aside0.mk hCr; clear hA4 hs4 hBl hBr hCl hCr) | (go_at_call 50; (with_reducible refine ((IH.out (m - a1) (by omega)).left blk off cap a1 m l1 w0 _ d0 d4 (Nat.le_refl _) hm1 (by omega) hsz HBL.out (by omega) (by omega) HA4.out HH.out HS4.out hblk).mono ?_); rintro e w5 ⟨rfl, L, q1, q2, hA5⟩; have HA5 := Aside0.mk hA5; have HQ := Aside0.mk (HCL.out L q1 q2); have HS5 := Aside0.mk (q1.1.trans HS4.out); clear hA5 q1 q2) | (go_at_call 50; (with_reducible refine ((IH.out (b1 - (m + 1)) (by omega)).right blk off cap m b1 l1 w0 _ d0 d4 (Nat.le_refl _) (by omega) (by omega) hsz HBR.out (by omega) (by omega) HA4.out HH.out HS4.out hblk).mono ?_); rintro e w5 ⟨rfl, L, q1, q2, hA5⟩; have HA5 := Aside0.mk hA5; have HQ := Aside0.mk (HCR.out L q1 q2); have HS5 := Aside0.mk (q1.1.trans HS4.out); clear hA5 q1 q2))
            all_goals go_roundw
            all_goals first | (case rel => (first | (exact ⟨m, b1, l1, _, _, d4, rfl, rfl, rfl, rfl, rfl, by omega, by omega, by omega, by omega, by omega, HS4, HB4, HA4, ⟨fun R h1 h2 => (fun h => HC.out R h.1 h.2) (HC4.out R h1 h2)⟩⟩) | (exact ⟨m + 1, b1, l1, _, y4, L, by go_num, rfl, rfl, rfl, rfl, by omega, by omega, by omega, by omega, by omega, HS5, ⟨HQ.out.1⟩, HA5, ⟨fun R h1 h2 => (fun h => HC.out R h.1 h.2) (HQ.out.2 R h1 h2)⟩⟩) | (exact ⟨a1, m, l1, _, y4, L, rfl, rfl, rfl, rfl, rfl, by omega, by omega, by omega, by omega, by omega, HS5, ⟨HQ.out.1⟩, HA5, ⟨fun R h1 h2 => (fun h => HC.out R h.1 h.2) (HQ.out.2 R h1 h2)⟩⟩))) | (case measure => simp [nOf]; omega)
        · obtain ⟨G, hG, hcw, hfw⟩ := row_fam HA2.out HH.out HS.out hblk
          have HG := Aside0.mk hG
          clear hG
          by_cases ha0 : 0 < a1
          · go_quiet (first | (go_at_call 66; refine Calls.quiet_of_same (uLess_calls _ _ _)))
            go_wp2_with (first | (go_at_call 67; (with_reducible refine (pPartEq (at_drew HA2.out _) HH.out HS.out hblk hsz cap ha0 hp1 hp2 (by omega) HB.out (by rw [← HG.out, ← HG.out]; simpa using (show (!ltInt (G (a1 - 1)) (G p)) = true by assumption))).mono ?_); rintro e w4 ⟨m, d4, rfl, hm1, hm2, hs4, hB4, hC4, hA4⟩; have HA4 := Aside0.mk hA4; have HS4 := Aside0.mk (hs4.trans HS.out); have HB4 := Aside0.mk hB4; have HC4 := Aside0.mk hC4; clear hA4 hs4 hB4 hC4) | (go_at_call 68; (with_reducible refine (pPart (at_drew HA2.out _) HH.out HS.out hblk hsz cap hp1 hp2 (by omega) HB.out).mono ?_); rintro e w4 ⟨m, y4, d4, rfl, hm1, hm2, hs4, hBl, hBr, hCl, hCr, hA4⟩; have HA4 := Aside0.mk hA4; have HS4 := Aside0.mk (hs4.trans HS.out); have HBL := Aside0.mk hBl; have HBR := Aside0.mk hBr; have HCL := Aside0.mk hCl; have HCR := Aside0.mk hCr; clear hA4 hs4 hBl hBr hCl hCr) | (go_at_call 50; (with_reducible refine ((IH.out (m - a1) (by omega)).left blk off cap a1 m l1 w0 _ d0 d4 (Nat.le_refl _) hm1 (by omega) hsz HBL.out (by omega) (by omega) HA4.out HH.out HS4.out hblk).mono ?_); rintro e w5 ⟨rfl, L, q1, q2, hA5⟩; have HA5 := Aside0.mk hA5; have HQ := Aside0.mk (HCL.out L q1 q2); have HS5 := Aside0.mk (q1.1.trans HS4.out); clear hA5 q1 q2) | (go_at_call 50; (with_reducible refine ((IH.out (b1 - (m + 1)) (by omega)).right blk off cap m b1 l1 w0 _ d0 d4 (Nat.le_refl _) (by omega) (by omega) hsz HBR.out (by omega) (by omega) HA4.out HH.out HS4.out hblk).mono ?_); rintro e w5 ⟨rfl, L, q1, q2, hA5⟩; have HA5 := Aside0.mk hA5; have HQ := Aside0.mk (HCR.out L q1 q2); have HS5 := Aside0.mk (q1.1.trans HS4.out); clear hA5 q1 q2))
            all_goals go_roundw
            all_goals first | (case rel => (first | (exact ⟨m, b1, l1, _, _, d4, rfl, rfl, rfl, rfl, rfl, by omega, by omega, by omega, by omega, by omega, HS4, HB4, HA4, ⟨fun R h1 h2 => (fun h => HC.out R h.1 h.2) (HC4.out R h1 h2)⟩⟩) | (exact ⟨m + 1, b1, l1, _, y4, L, by go_num, rfl, rfl, rfl, rfl, by omega, by omega, by omega, by omega, by omega, HS5, ⟨HQ.out.1⟩, HA5, ⟨fun R h1 h2 => (fun h => HC.out R h.1 h.2) (HQ.out.2 R h1 h2)⟩⟩) | (exact ⟨a1, m, l1, _, y4, L, rfl, rfl, rfl, rfl, rfl, by omega, by omega, by omega, by omega, by omega, HS5, ⟨HQ.out.1⟩, HA5, ⟨fun R h1 h2 => (fun h => HC.out R h.1 h.2) (HQ.out.2 R h1 h2)⟩⟩))) | (case measure => simp [nOf]; omega)
          · go_quiet (first | (go_at_call 66; refine Calls.quiet_of_same (uLess_calls _ _ _)))
            go_wp2_with (first | (go_at_call 67; (with_reducible refine (pPartEq (at_drew HA2.out _) HH.out HS.out hblk hsz cap ha0 hp1 hp2 (by omega) HB.out (by rw [← HG.out, ← HG.out]; simpa using (show (!ltInt (G (a1 - 1)) (G p)) = true by assumption))).mono ?_); rintro e w4 ⟨m, d4, rfl, hm1, hm2, hs4, hB4, hC4, hA4⟩; have HA4 := Aside0.mk hA4; have HS4 := Aside0.mk (hs4.trans HS.out); have HB4 := Aside0.mk hB4; have HC4 := Aside0.mk hC4; clear hA4 hs4 hB4 hC4) | (go_at_call 68; (with_reducible refine (pPart (at_drew HA2.out _) HH.out HS.out hblk hsz cap hp1 hp2 (by omega) HB.out).mono ?_); rintro e w4 ⟨m, y4, d4, rfl, hm1, hm2, hs4, hBl, hBr, hCl, hCr, hA4⟩; have HA4 := Aside0.mk hA4; have HS4 := Aside0.mk (hs4.trans HS.out); have HBL := Aside0.mk hBl; have HBR := Aside0.mk hBr; have HCL := Aside0.mk hCl; have HCR := Aside0.mk hCr; clear hA4 hs4 hBl hBr hCl hCr) | (go_at_call 50; (with_reducible refine ((IH.out (m - a1) (by omega)).left blk off cap a1 m l1 w0 _ d0 d4 (Nat.le_refl _) hm1 (by omega) hsz HBL.out (by omega) (by omega) HA4.out HH.out HS4.out hblk).mono ?_); rintro e w5 ⟨rfl, L, q1, q2, hA5⟩; have HA5 := Aside0.mk hA5; have HQ := Aside0.mk (HCL.out L q1 q2); have HS5 := Aside0.mk (q1.1.trans HS4.out); clear hA5 q1 q2) | (go_at_call 50; (with_reducible refine ((IH.out (b1 - (m + 1)) (by omega)).right blk off cap m b1 l1 w0 _ d0 d4 (Nat.le_refl _) (by omega) (by omega) hsz HBR.out (by omega) (by omega) HA4.out HH.out HS4.out hblk).mono ?_); rintro e w5 ⟨rfl, L, q1, q2, hA5⟩; have HA5 := Aside0.mk hA5; have HQ := Aside0.mk (HCR.out L q1 q2); have HS5 := Aside0.mk (q1.1.trans HS4.out); clear hA5 q1 q2))
            all_goals go_roundw
            all_goals first | (case rel => (first | (exact ⟨m, b1, l1, _, _, d4, rfl, rfl, rfl, rfl, rfl, by omega, by omega, by omega, by omega, by omega, HS4, HB4, HA4, ⟨fun R h1 h2 => (fun h => HC.out R h.1 h.2) (HC4.out R h1 h2)⟩⟩) | (exact ⟨m + 1, b1, l1, _, y4, L, by go_num, rfl, rfl, rfl, rfl, by omega, by omega, by omega, by omega, by omega, HS5, ⟨HQ.out.1⟩, HA5, ⟨fun R h1 h2 => (fun h => HC.out R h.1 h.2) (HQ.out.2 R h1 h2)⟩⟩) | (exact ⟨a1, m, l1, _, y4, L, rfl, rfl, rfl, rfl, rfl, by omega, by omega, by omega, by omega, by omega, HS5, ⟨HQ.out.1⟩, HA5, ⟨fun R h1 h2 => (fun h => HC.out R h.1 h.2) (HQ.out.2 R h1 h2)⟩⟩))) | (case measure => simp [nOf]; omega)
        · obtain ⟨G, hG, hcw, hfw⟩ := row_fam HA2.out HH.out HS.out hblk
          have HG := Aside0.mk hG
          clear hG
          by_cases ha0 : 0 < a1
          · go_quiet (first | (go_at_call 66; refine Calls.quiet_of_same (uLess_calls _ _ _)))
            go_wp2_with (first | (go_at_call 67; (with_reducible refine (pPartEq (at_drew HA2.out _) HH.out HS.out hblk hsz cap ha0 hp1 hp2 (by omega) HB.out (by rw [← HG.out, ← HG.out]; simpa using (show (!ltInt (G (a1 - 1)) (G p)) = true by assumption))).mono ?_); rintro e w4 ⟨m, d4, rfl, hm1, hm2, hs4, hB4, hC4, hA4⟩; have HA4 := Aside0.mk hA4; have HS4 := Aside0.mk (hs4.trans HS.out); have HB4 := Aside0.mk hB4; have HC4 := Aside0.mk hC4; clear hA4 hs4 hB4 hC4) | (go_at_call 68; (with_reducible refine (pPart (at_drew HA2.out _) HH.out HS.out hblk hsz cap hp1 hp2 (by omega) HB.out).mono ?_); rintro e w4 ⟨m, y4, d4, rfl, hm1, hm2, hs4, hBl, hBr, hCl, hCr, hA4⟩; have HA4 := Aside0.mk hA4; have HS4 := Aside0.mk (hs4.trans HS.out); have HBL := Aside0.mk hBl; have HBR := Aside0.mk hBr; have HCL := Aside0.mk hCl; have HCR := Aside0.mk hCr; clear hA4 hs4 hBl hBr hCl hCr) | (go_at_call 50; (with_reducible refine ((IH.out (m - a1) (by omega)).left blk off cap a1 m l1 w0 _ d0 d4 (Nat.le_refl _) hm1 (by omega) hsz HBL.out (by omega) (by omega) HA4.out HH.out HS4.out hblk).mono ?_); rintro e w5 ⟨rfl, L, q1, q2, hA5⟩; have HA5 := Aside0.mk hA5; have HQ := Aside0.mk (HCL.out L q1 q2); have HS5 := Aside0.mk (q1.1.trans HS4.out); clear hA5 q1 q2) | (go_at_call 50; (with_reducible refine ((IH.out (b1 - (m + 1)) (by omega)).right blk off cap m b1 l1 w0 _ d0 d4 (Nat.le_refl _) (by omega) (by omega) hsz HBR.out (by omega) (by omega) HA4.out HH.out HS4.out hblk).mono ?_); rintro e w5 ⟨rfl, L, q1, q2, hA5⟩; have HA5 := Aside0.mk hA5; have HQ := Aside0.mk (HCR.out L q1 q2); have HS5 := Aside0.mk (q1.1.trans HS4.out); clear hA5 q1 q2))
            all_goals go_roundw
            all_goals first | (case rel => (first | (exact ⟨m, b1, l1, _, _, d4, rfl, rfl, rfl, rfl, rfl, by omega, by omega, by omega, by omega, by omega, HS4, HB4, HA4, ⟨fun R h1 h2 => (fun h => HC.out R h.1 h.2) (HC4.out R h1 h2)⟩⟩) | (exact ⟨m + 1, b1, l1, _, y4, L, by go_num, rfl, rfl, rfl, rfl, by omega, by omega, by omega, by omega, by omega, HS5, ⟨HQ.out.1⟩, HA5, ⟨fun R h1 h2 => (fun h => HC.out R h.1 h.2) (HQ.out.2 R h1 h2)⟩⟩) | (exact ⟨a1, m, l1, _, y4, L, rfl, rfl, rfl, rfl, rfl, by omega, by omega, by omega, by omega, by omega, HS5, ⟨HQ.out.1⟩, HA5, ⟨fun R h1 h2 => (fun h => HC.out R h.1 h.2) (HQ.out.2 R h1 h2)⟩⟩))) | (case measure => simp [nOf]; omega)
          · go_quiet (first | (go_at_call 66; refine Calls.quiet_of_same (uLess_calls _ _ _)))
            go_wp2_with (first | (go_at_call 67; (with_reducible refine (pPartEq (at_drew HA2.out _) HH.out HS.out hblk hsz cap ha0 hp1 hp2 (by omega) HB.out (by rw [← HG.out, ← HG.out]; simpa using (show (!ltInt (G (a1 - 1)) (G p)) = true by assumption))).mono ?_); rintro e w4 ⟨m, d4, rfl, hm1, hm2, hs4, hB4, hC4, hA4⟩; have HA4 := Aside0.mk hA4; have HS4 := Aside0.mk (hs4.trans HS.out); have HB4 := Aside0.mk hB4; have HC4 := Aside0.mk hC4; clear hA4 hs4 hB4 hC4) | (go_at_call 68; (with_reducible refine (pPart (at_drew HA2.out _) HH.out HS.out hblk hsz cap hp1 hp2 (by omega) HB.out).mono ?_); rintro e w4 ⟨m, y4, d4, rfl, hm1, hm2, hs4, hBl, hBr, hCl, hCr, hA4⟩; have HA4 := Aside0.mk hA4; have HS4 := Aside0.mk (hs4.trans HS.out); have HBL := Aside0.mk hBl; have HBR := Aside0.mk hBr; have HCL := Aside0.mk hCl; have HCR := Aside0.mk hCr; clear hA4 hs4 hBl hBr hCl hCr) | (go_at_call 50; (with_reducible refine ((IH.out (m - a1) (by omega)).left blk off cap a1 m l1 w0 _ d0 d4 (Nat.le_refl _) hm1 (by omega) hsz HBL.out (by omega) (by omega) HA4.out HH.out HS4.out hblk).mono ?_); rintro e w5 ⟨rfl, L, q1, q2, hA5⟩; have HA5 := Aside0.mk hA5; have HQ := Aside0.mk (HCL.out L q1 q2); have HS5 := Aside0.mk (q1.1.trans HS4.out); clear hA5 q1 q2) | (go_at_call 50; (with_reducible refine ((IH.out (b1 - (m + 1)) (by omega)).right blk off cap m b1 l1 w0 _ d0 d4 (Nat.le_refl _) (by omega) (by omega) hsz HBR.out (by omega) (by omega) HA4.out HH.out HS4.out hblk).mono ?_); rintro e w5 ⟨rfl, L, q1, q2, hA5⟩; have HA5 := Aside0.mk hA5; have HQ := Aside0.mk (HCR.out L q1 q2); have HS5 := Aside0.mk (q1.1.trans HS4.out); clear hA5 q1 q2))
            all_goals go_roundw
            all_goals first | (case rel => (first | (exact ⟨m, b1, l1, _, _, d4, rfl, rfl, rfl, rfl, rfl, by omega, by omega, by omega, by omega, by omega, HS4, HB4, HA4, ⟨fun R h1 h2 => (fun h => HC.out R h.1 h.2) (HC4.out R h1 h2)⟩⟩) | (exact ⟨m + 1, b1, l1, _, y4, L, by go_num, rfl, rfl, rfl, rfl, by omega, by omega, by omega, by omega, by omega, HS5, ⟨HQ.out.1⟩, HA5, ⟨fun R h1 h2 => (fun h => HC.out R h.1 h.2) (HQ.out.2 R h1 h2)⟩⟩) | (exact ⟨a1, m, l1, _, y4, L, rfl, rfl, rfl, rfl, rfl, by omega, by omega, by omega, by omega, by omega, HS5, ⟨HQ.out.1⟩, HA5, ⟨fun R h1 h2 => (fun h => HC.out R h.1 h.2) (HQ.out.2 R h1 h2)⟩⟩))) | (case measure => simp [nOf]; omega)
      | false =>
        obtain ⟨l2, hl2⟩ : ∃ l2 : Nat, (l1 : Int) - 1 = (l2 : Int) := ⟨l1 - 1, by omega⟩
        go_wp2_with (first | (go_at_call 62; (with_reducible refine (pBreak HA.out HH.out HS.out hblk hsz cap (by omega) (by omega)).mono ?_); rintro e w1 ⟨rfl, d1, p1, hA1⟩; have HA1 := Aside0.mk hA1; have HS1 := Aside0.mk (p1.1.trans HS.out); have HB1 := Aside0.mk (Sort.Below.perm HB.out (by rw [HS.out]; omega) p1); have HC1 : Aside0 (∀ R, PermIn a1 b1 d1 R → SortedIn ltInt a1 b1 R → PermIn a b d R ∧ SortedIn ltInt a b R) := ⟨fun R h1 h2 => HC.out R (permIn_trans _ _ _ _ _ p1 h1) h2⟩; clear hA1 p1) | (go_at_call 63; (with_reducible refine (pPivot HA1.out HH.out HS1.out hblk hsz cap (by omega) (by omega)).mono ?_); rintro e w2 ⟨p, c, rfl, hp1, hp2, hc, hA2⟩; have HA2 := Aside0.mk hA2; have hc2 : (c == 2) = false := (by rcases hc with rfl | rfl <;> rfl); clear hA2))
        obtain ⟨G, hG, hcw, hfw⟩ := row_fam HA2.out HH.out HS1.out hblk
        have HG := Aside0.mk hG
        clear hG
        by_cases ha0 : 0 < a1
        · go_quiet (first | (go_at_call 66; refine Calls.quiet_of_same (uLess_calls _ _ _)))
          go_wp2_with (first | (go_at_call 67; (with_reducible refine (pPartEq (at_drew HA2.out _) HH.out HS1.out hblk hsz cap ha0 hp1 hp2 (by omega) HB1.out (by rw [← HG.out, ← HG.out]; simpa using (show (!ltInt (G (a1 - 1)) (G p)) = true by assumption))).mono ?_); rintro e w4 ⟨m, d4, rfl, hm1, hm2, hs4, hB4, hC4, hA4⟩; have HA4 := Aside0.mk hA4; have HS4 := Aside0.mk (hs4.trans HS1.out); have HB4 := Aside0.mk hB4; have HC4 := Aside0.mk hC4; clear hA4 hs4 hB4 hC4) | (go_at_call 68; (with_reducible refine (pPart (at_drew HA2.out _) HH.out HS1.out hblk hsz cap hp1 hp2 (by omega) HB1.out).mono ?_); rintro e w4 ⟨m, y4, d4, rfl, hm1, hm2, hs4, hBl, hBr, hCl, hCr, hA4⟩; have HA4 := Aside0.mk hA4; have HS4 := Aside0.mk (hs4.trans HS1.out); have HBL := Aside0.mk hBl; have HBR := Aside0.mk hBr; have HCL := Aside0.mk hCl; have HCR := Aside0.mk hCr; clear hA4 hs4 hBl hBr hCl hCr) | (go_at_call 50; (with_reducible refine ((IH.out (m - a1) (by omega)).left blk off cap a1 m l2 w0 _ d0 d4 (Nat.le_refl _) hm1 (by omega) hsz HBL.out (by omega) (by omega) HA4.out HH.out HS4.out hblk).mono ?_); rintro e w5 ⟨rfl, L, q1, q2, hA5⟩; have HA5 := Aside0.mk hA5; have HQ := Aside0.mk (HCL.out L q1 q2); have HS5 := Aside0.mk (q1.1.trans HS4.out); clear hA5 q1 q2) | (go_at_call 50; (with_reducible refine ((IH.out (b1 - (m + 1)) (by omega)).right blk off cap m b1 l2 w0 _ d0 d4 (Nat.le_refl _) (by omega) (by omega) hsz HBR.out (by omega) (by omega) HA4.out HH.out HS4.out hblk).mono ?_); rintro e w5 ⟨rfl, L, q1, q2, hA5⟩; have HA5 := Aside0.mk hA5; have HQ := Aside0.mk (HCR.out L q1 q2); have HS5 := Aside0.mk (q1.1.trans HS4.out); clear hA5 q1 q2))
          all_goals go_roundw
          all_goals first | (case rel => (first | (exact ⟨m, b1, l2, _, _, d4, rfl, rfl, rfl, rfl, rfl, by omega, by omega, by omega, by omega, by omega, HS4, HB4, HA4, ⟨fun R h1 h2 => (fun h => HC1.out R h.1 h.2) (HC4.out R h1 h2)⟩⟩) | (exact ⟨m + 1, b1, l2, _, y4, L, by go_num, rfl, rfl, rfl, rfl, by omega, by omega, by omega, by omega, by omega, HS5, ⟨HQ.out.1⟩, HA5, ⟨fun R h1 h2 => (fun h => HC1.out R h.1 h.2) (HQ.out.2 R h1 h2)⟩⟩) | (exact ⟨a1, m, l2, _, y4, L, rfl, rfl, rfl, rfl, rfl, by omega, by omega, by omega, by omega, by omega, HS5, ⟨HQ.out.1⟩, HA5, ⟨fun R h1 h2 => (fun h => HC1.out R h.1 h.2) (HQ.out.2 R h1 h2)⟩⟩))) | (case measure => simp [nOf]; omega)
        · go_quiet (first | (go_at_call 66; refine Calls.quiet_of_same (uLess_calls _ _ _)))
          go_wp2_with (first | (go_at_call 67; (with_reducible refine (pPartEq (at_drew HA2.out _) HH.out HS1.out hblk hsz cap ha0 hp1 hp2 (by omega) HB1.out (by rw [← HG.out, ← HG.out]; simpa using (show (!ltInt (G (a1 - 1)) (G p)) = true by assumption))).mono ?_); rintro e w4 ⟨m, d4, rfl, hm1, hm2, hs4, hB4, hC4, hA4⟩; have HA4 := Aside0.mk hA4; have HS4 := Aside0.mk (hs4.trans HS1.out); have HB4 := Aside0.mk hB4; have HC4 := Aside0.mk hC4; clear hA4 hs4 hB4 hC4) | (go_at_call 68; (with_reducible refine (pPart (at_drew HA2.out _) HH.out HS1.out hblk hsz cap hp1 hp2 (by omega) HB1.out).mono ?_); rintro e w4 ⟨m, y4, d4, rfl, hm1, hm2, hs4, hBl, hBr, hCl, hCr, hA4⟩; have HA4 := Aside0.mk hA4; have HS4 := Aside0.mk (hs4.trans HS1.out); have HBL := Aside0.mk hBl; have HBR := Aside0.mk hBr; have HCL := Aside0.mk hCl; have HCR := Aside0.mk hCr; clear hA4 hs4 hBl hBr hCl hCr) | (go_at_call 50; (with_reducible refine ((IH.out (m - a1) (by omega)).left blk off cap a1 m l2 w0 _ d0 d4 (Nat.le_refl _) hm1 (by omega) hsz HBL.out (by omega) (by omega) HA4.out HH.out HS4.out hblk).mono ?_); rintro e w5 ⟨rfl, L, q1, q2, hA5⟩; have HA5 := Aside0.mk hA5; have HQ := Aside0.mk (HCL.out L q1 q2); have HS5 := Aside0.mk (q1.1.trans HS4.out); clear hA5 q1 q2) | (go_at_call 50; (with_reducible refine ((IH.out (b1 - (m + 1)) (by omega)).right blk off cap m b1 l2 w0 _ d0 d4 (Nat.le_refl _) (by omega) (by omega) hsz HBR.out (by omega) (by omega) HA4.out HH.out HS4.out hblk).mono ?_); rintro e w5 ⟨rfl, L, q1, q2, hA5⟩; have HA5 := Aside0.mk hA5; have HQ := Aside0.mk (HCR.out L q1 q2); have HS5 := Aside0.mk (q1.1.trans HS4.out); clear hA5 q1 q2))
          all_goals go_roundw
          all_goals first | (case rel => (first | (exact ⟨m, b1, l2, _, _, d4, rfl, rfl, rfl, rfl, rfl, by omega, by omega, by omega, by omega, by omega, HS4, HB4, HA4, ⟨fun R h1 h2 => (fun h => HC1.out R h.1 h.2) (HC4.out R h1 h2)⟩⟩) | (exact ⟨m + 1, b1, l2, _, y4, L, by go_num, rfl, rfl, rfl, rfl, by omega, by omega, by omega, by omega, by omega, HS5, ⟨HQ.out.1⟩, HA5, ⟨fun R h1 h2 => (fun h => HC1.out R h.1 h.2) (HQ.out.2 R h1 h2)⟩⟩) | (exact ⟨a1, m, l2, _, y4, L, rfl, rfl, rfl, rfl, rfl, by omega, by omega, by omega, by omega, by omega, HS5, ⟨HQ.out.1⟩, HA5, ⟨fun R h1 h2 => (fun h => HC1.out R h.1 h.2) (HQ.out.2 R h1 h2)⟩⟩))) | (case measure => simp [nOf]; omega)
end Go.Proofs.Ytliclajcifeneaa.Hand
namespace Go.Proofs.Ytliclajcifeneaa.Hand
set_option linter.unusedVariables false
set_option linter.unusedSimpArgs false
open Go.RowKit Go.Sort Go.Proofs.YtliclajcifeneaaW.PrintWords
set_option linter.unusedVariables false
set_option linter.unusedSimpArgs false
theorem pdq_all (n : Nat) : PdqOk n := Nat.strongRecOn n (fun n ih => pdq_step n ih)
theorem bl_ok {n : Nat} (h : n ≤ 16) : n ≤ bl n + 11 ∧ bl n ≤ 64 := by
  unfold bl
  repeat' split
  all_goals omega
/-- The row, rising. -/
def sortU (d : List Int) : List Int := d.mergeSort (fun x y => decide (x ≤ y))
theorem uSort_calls (blk off cap : Nat) (xs : List Int) (w : World) (hH : Holds eU w blk off xs.toArray) (hblk : blk < w.heap.size) (hsz : xs.length ≤ 16) :
    Calls Try.prog 35 #[.slice (some ⟨blk, off, none⟩) xs.length cap] w fun e w' => e = .returned (.tuple #[]) ∧ At eU w blk off (sortU xs).toArray w' := by
  have hp := (pdq_all xs.length) blk off cap 0 xs.length (bl xs.length) w w xs.toArray xs.toArray (by simp) (Nat.zero_le _) (by simp) (by simpa using hsz) (Or.inl rfl) (by have := bl_ok hsz; omega) (by have := bl_ok hsz; omega) (At.refl hH) hH rfl hblk
  rw [show xs.toArray.size = xs.length by simp] at hp
  have HP := Aside0.mk (show Calls Try.prog 50 #[.slice (some ⟨blk, off, none⟩) xs.length cap, .int .i64 0, .int .i64 (xs.length : Int), .int .i64 (bl xs.length : Int)] w fun e w' =>
    e = .returned (.tuple #[]) ∧ ∃ d', PermIn 0 xs.length xs.toArray d' ∧ SortedIn ltInt 0 xs.length d' ∧ At eU w blk off d' w' from hp)
  clear hp
  go_enter Try.func35, Try.ntmps35
  go_wp2_with (first | (go_at_call 51; (with_reducible refine (len_calls xs.length hsz _).mono ?_); rintro e w' ⟨rfl, rfl⟩) | (go_at_call 50; (with_reducible refine HP.out.mono ?_); rintro e w1 ⟨rfl, d', p1, p2, hA⟩; have HA := Aside0.mk hA; have P1 := Aside0.mk p1; have P2 := Aside0.mk p2; clear hA p1 p2))
  go_end0
  refine ⟨rfl, ?_⟩
  have hs := sorted_unique_holds (lt := ltInt) swo_ltInt (fun x y h1 h2 => by simp only [ltInt, decide_eq_false_iff_not] at h1 h2; omega) xs.toArray d' (by simpa using P1.out) (by simpa using P2.out)
  have e : sortU xs = d'.toList := by
    rw [hs]
    simp only [sortU]
    congr 1
    funext x y
    simp only [ltInt]
    by_cases h : x ≤ y
    · simp [h, show ¬ y < x by omega]
    · simp [h, show y < x by omega]
  rw [e]
  exact HA.out
theorem uSort_none (cap : Nat) (w : World) : Calls Try.prog 35 #[.slice none 0 cap] w fun e w' => e = .returned (.tuple #[]) ∧ w' = w := by
  have h1 : ∀ W, Calls Try.prog 60 #[.slice none 0 cap, .int .i64 0, .int .i64 0] W fun e w' => e = .returned (.tuple #[]) ∧ w' = W := by
    intro W
    go_enter Try.func60, Try.ntmps60
    go_wp2
    go_loopw [6] (fun vi wr => vi = .int .i64 1 ∧ wr = W) (fun _ _ => 0)
    case atStart => exact ⟨rfl, rfl⟩
    case round =>
      obtain ⟨rfl, rfl⟩ := hrel
      go_wp2
      go_end0
      exact ⟨rfl, rfl⟩
  have h2 : ∀ W, Calls Try.prog 50 #[.slice none 0 cap, .int .i64 0, .int .i64 0, .int .i64 0] W fun e w' => e = .returned (.tuple #[]) ∧ w' = W := by
    intro W
    go_enter Try.func50, Try.ntmps50
    go_wp2
    go_loopw [1, 2, 3, 8, 9] (fun v1 v2 v3 _ _ wr => v1 = .int .i64 0 ∧ v2 = .int .i64 0 ∧ v3 = .int .i64 0 ∧ wr = W) (fun _ _ _ _ _ _ => 0)
    case atStart => exact ⟨rfl, rfl, rfl, rfl⟩
    case round =>
      obtain ⟨rfl, rfl, rfl, rfl⟩ := hrel
      go_wp2_with (go_at_call 60; (with_reducible refine (h1 _).mono ?_); rintro e w' ⟨rfl, rfl⟩)
      (try simp only [Exit.inBlock, Exit.then]); refine bodyPost_ret (results_none rfl _ _ _) rfl ?_
      exact ⟨rfl, rfl⟩
  have h3 : ∀ W, Calls Try.prog 51 #[.int .u64 0] W fun e w' => e = .returned (.int .i64 0) ∧ w' = W := fun W => len_calls 0 (by omega) W
  go_enter Try.func35, Try.ntmps35
  go_wp2_with (first | (go_at_call 51; (with_reducible refine (h3 _).mono ?_); rintro e w' ⟨rfl, rfl⟩) | (go_at_call 50; (with_reducible refine (h2 _).mono ?_); rintro e w1 ⟨rfl, rfl⟩))
  go_end0
  exact ⟨rfl, rfl⟩
end Go.Proofs.Ytliclajcifeneaa.Hand
