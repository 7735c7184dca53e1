/- Contract of crc.More and of its closure: the register behind the bytes, and that nothing that was there is changed. -/
import Derived.Test.YtbfogcckbhkciaaProg
import Derived.WalkKit
import Derived.WalkSpells
import Derived.Below
import Derived.OwnWalk
import Derived.BigFrame
import Derived.KernelRfl
import Derived.LoopTactic
import Derived.Outline
import Derived.Test.YtbfogcckbhkciaaWWords
import Derived.Test.YtbfogcckbhkciaaHandBase
namespace Go.Proofs.Ytbfogcckbhkciaa.Hand
open Go.RowKit Go.Proofs.YtbfogcckbhkciaaW.PrintWords

/-- A register, one bit on. -/
def bitN (n : Int) : Int := if n / 32768 = 1 then bits .xor .u16 (IntKind.u16.wrap (n * 2)) 4129 else IntKind.u16.wrap (n * 2)
theorem bitN_yes {n : Int} (h : n / 32768 = 1) : bitN n = bits .xor .u16 (IntKind.u16.wrap (n * 2)) 4129 := if_pos h
theorem bitN_no {n : Int} (h : ¬ n / 32768 = 1) : bitN n = IntKind.u16.wrap (n * 2) := if_neg h

theorem bit_calls (w : World) (g : Nat) (n : Int) (hg : w.heap[g]? = some (.cells #[.int .u16 n] 195 (0, 0))) :
    Calls Try.prog 150 #[.pointer (some ⟨g, 0, none⟩)] w fun e w' => e = .returned (.tuple #[]) ∧ w'.heap[g]? = some (.cells #[.int .u16 (bitN n)] 195 (0, 0)) ∧ Fr (fun b => b = g) w w' := by
  have hc := cell_of_one hg
  have hf := free_of_one hg
  have HG := Aside0.mk hg
  clear hg
  by_cases h : n / 32768 = 1
  · have HB := Aside0.mk (bitN_yes h)
    have hb1 : (n / 32768 == 1) = true := by simpa using h
    clear h
    go_enter Try.func150, Try.ntmps150
    go_wp2
    go_end0
    exact ⟨rfl, by rw [HB.out]; exact one_setCell (one_setCell HG.out), ((Fr.refl (fun b => b = g) w).setCell (p := ⟨g, 0, none⟩) (.inl rfl) _).setCell (p := ⟨g, 0, none⟩) (.inl rfl) _⟩
  · have HB := Aside0.mk (bitN_no h)
    have hb1 : (n / 32768 == 1) = false := by simpa using h
    clear h
    go_enter Try.func150, Try.ntmps150
    go_wp2
    go_end0
    exact ⟨rfl, by rw [HB.out]; exact one_setCell HG.out, (Fr.refl (fun b => b = g) w).setCell (p := ⟨g, 0, none⟩) (.inl rfl) _⟩

/-- So many bits on. -/
def bitsN (n : Int) : Nat → Int
  | 0 => n
  | k + 1 => bitN (bitsN n k)
/-- A byte more. -/
def byteN (n c : Int) : Int := bitsN (bits .xor .u16 n (IntKind.u16.wrap (IntKind.u16.wrap c * 256))) 8
/-- The register behind the first k bytes. -/
def regN (sum : Int) (l : List Int) : Nat → Int
  | 0 => IntKind.u16.wrap sum
  | k + 1 => byteN (regN sum l k) (rd l k)
def moreF (sum : Int) (l : List Int) : Option Int := if l.length ≤ 140737488355328 then some (wrap64 (regN sum l l.length)) else none

set_option maxHeartbeats 1000000 in
theorem more_calls (sum : Int) (A : Option Addr) (c : Nat) (l : List Int) (r : Int) (w : World) (hr0 : Kd.C (Kd.int .u8) w A l.length l) (h : moreF sum l = some r) :
    Calls Try.prog 134 #[.int .i64 sum, .slice A l.length c] w fun e w' => e = .returned (.int .i64 r) ∧ Below w.heap.size w w' := by
  have HR := Aside0.mk (Kd.reads_of_C (d := (0 : Int)) hr0)
  clear hr0
  obtain ⟨hl, rfl⟩ : l.length ≤ 140737488355328 ∧ wrap64 (regN sum l l.length) = r := by
    unfold moreF at h
    split at h
    · exact ⟨‹_›, Option.some.inj h⟩
    · exact absurd h (by simp)
  clear h
  go_enter Try.func134, Try.ntmps134
  go_wp2
  go_loopw [14] (fun i wr => ∃ k : Nat, k ≤ l.length ∧ i = .int .i64 k ∧ wr.heap[w.heap.size]? = some (.cells #[.int .u16 (regN sum l k)] 195 (0, 0)) ∧ Below w.heap.size w wr) (fun i _ => l.length - (intOf i).toNat)
  case atStart => exact ⟨0, Nat.zero_le _, rfl, heap_alloc_new w _, below_alloc (Below.refl _ _) _⟩
  case round =>
    obtain ⟨k, hk, rfl, hg, hb⟩ := hrel
    have hc := cell_of_one hg
    have hf := free_of_one hg
    by_cases hlt : k < l.length
    · obtain ⟨ad, rfl, hx⟩ := HR.out.2.2 (by omega)
      have hx1 : wr.cell? (ad.add k) = some (.int .u8 (rd l k)) := (hb.cell (World.block_lt_of_cell? w _ (hx k hlt))).trans (hx k hlt)
      clear hx
      have HG := Aside0.mk hg
      have HB := Aside0.mk hb
      clear hg hb
      go_wp2
      go_loopw [23] (fun i wr2 => ∃ j : Nat, j ≤ 8 ∧ i = .int .i64 j ∧ wr2.heap[w.heap.size]? = some (.cells #[.int .u16 (bitsN (bits .xor .u16 (regN sum l k) (IntKind.u16.wrap (IntKind.u16.wrap (rd l k) * 256))) j)] 195 (0, 0)) ∧ Below w.heap.size w wr2) (fun i _ => 8 - (intOf i).toNat)
      case atStart => exact ⟨0, Nat.zero_le _, rfl, one_setCell HG.out, HB.out.setCell (p := ⟨w.heap.size, 0, none⟩) (Nat.le_refl _) _⟩
      case round =>
        obtain ⟨j, hj, rfl, hg, hb⟩ := hrel
        have HG := Aside0.mk hg
        have HB := Aside0.mk hb
        clear hg hb
        by_cases hj8 : j < 8
        · go_wp2_with (go_at_call 150; refine (bit_calls _ _ _ HG.out).mono ?_; rintro e w' ⟨rfl, hg', hfr⟩; have HG' := Aside0.mk hg'; have HF := Aside0.mk hfr; clear hg' hfr)
          go_roundw
          case rel => exact ⟨j + 1, by omega, by go_num, HG'.out, HB.out.trans (HF.out.below _ HB.out.size (fun b hb => by subst hb; exact Nat.le_refl _))⟩
          case measure => simp [intOf]; omega
        · obtain rfl : j = 8 := by omega
          go_wp2
          go_roundw
          case rel => exact ⟨k + 1, by omega, by go_num, HG.out, HB.out⟩
          case measure => simp [intOf]; omega
    · obtain rfl : k = l.length := by omega
      go_wp2
      go_ret
      exact ⟨rfl, hb⟩
end Go.Proofs.Ytbfogcckbhkciaa.Hand
