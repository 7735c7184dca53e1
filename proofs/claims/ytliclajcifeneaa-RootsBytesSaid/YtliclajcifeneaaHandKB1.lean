/- What a claim needs of the walks and contracts, part B1. -/
import Derived.Test.YtliclajcifeneaaProg
import Derived.WalkKit
import Derived.Below
import Derived.OwnWalk
import Derived.BigQuiet
import Derived.BigFrame
import Derived.KernelRfl
import Derived.LoopTactic
import Derived.Lib.Hide
import Derived.Outline
import Derived.Test.YtliclajcifeneaaWWords
import Derived.Deep.Draws
import Derived.OneCell
import Derived.WalkSpells
import Derived.IntWalk
import Derived.Laws.CopyOwn
import Derived.Laws.ResultCell
import Derived.Laws.Rows
import Derived.Handy
import Derived.Lib.ConvBytes
import Derived.Laws.BitsAllLaws
import Derived.Lib.Bytes
import Derived.Deep.RegionHeld3
import Derived.ProofKit
import Derived.OpenShut
import Derived.Deep.QuietTactic
import Derived.Deep.RegionHeld
import Derived.Maps.OwnSet
import Derived.Maps.OwnOps
import Derived.Maps.RangeWalk
import Derived.Maps.Ext
import Derived.Deep.Slices
import Derived.ChangeSame
import Derived.Lib.SmallJoins
namespace Go.Proofs.Ytliclajcifeneaa.Hand
set_option linter.unusedVariables false
set_option linter.unusedSimpArgs false
open Go.RowKit Go.Proofs.YtliclajcifeneaaW.PrintWords

def rightB (a : Int) : Bool := a == 1 || (a == 2 || (a == 4 || a == 8))
theorem right_calls (a : Int) (w : World) : Calls Try.prog 55 #[.int .i64 a] w fun e w' => e = .returned (.bool (rightB a)) ∧ w = w' := by
  by_cases h1 : a = 1
  · go_enter Try.func55, Try.ntmps55
    go_wp2
    go_ret
    exact ⟨by simp [rightB, h1], rfl⟩
  · by_cases h2 : a = 2
    · go_enter Try.func55, Try.ntmps55
      go_wp2
      go_ret
      exact ⟨by simp [rightB, h2], rfl⟩
    · by_cases h3 : a = 4
      · go_enter Try.func55, Try.ntmps55
        go_wp2
        go_ret
        exact ⟨by simp [rightB, h3], rfl⟩
      · go_enter Try.func55, Try.ntmps55
        go_wp2
        go_ret
        exact ⟨by rw [rightB, beq_false_of_ne h1, beq_false_of_ne h2, beq_false_of_ne h3]; rfl, rfl⟩

def insideB (at_ width : Int) (n : Nat) : Bool := decide (0 ≤ at_) && (decide (at_ ≤ n) && decide (width ≤ n - at_))
theorem inside_calls (w : World) (pa pb pw : Nat) (at_ width : Int) (a : Option Addr) (n c : Nat)
    (hm : n ≤ 9223372036854775807) (ha : w.cell? ⟨pa,0,none⟩ = some (.int .i64 at_)) (hb : w.cell? ⟨pb,0,none⟩ = some (.slice a n c)) (hw : w.cell? ⟨pw,0,none⟩ = some (.int .i64 width)) :
    Calls Try.prog 54 #[.pointer (some ⟨pa,0,none⟩), .pointer (some ⟨pb,0,none⟩), .pointer (some ⟨pw,0,none⟩)] w fun e w' => e = .returned (.bool (insideB at_ width n)) ∧ w = w' := by
  by_cases c1 : 0 ≤ at_
  · by_cases c2 : at_ ≤ (n : Int)
    · go_enter Try.func54, Try.ntmps54
      go_wp2
      go_ret
      exact ⟨by rw [insideB, decide_eq_true c1, decide_eq_true c2]; rfl, rfl⟩
    · go_enter Try.func54, Try.ntmps54
      go_wp2
      go_ret
      exact ⟨by rw [insideB, decide_eq_false (Int.not_le.2 c2), Bool.false_and, Bool.and_false]; rfl, rfl⟩
  · go_enter Try.func54, Try.ntmps54
    go_wp2
    go_ret
    exact ⟨by rw [insideB, decide_eq_false (Int.not_le.2 c1), Bool.false_and]; rfl, rfl⟩

/-- The number in the first k bytes from at_ on, as the loop reckons it. -/
def getN (l : List Int) (at_ : Int) : Nat → Int
  | 0 => 0
  | k + 1 => bits .or .u64 (getN l at_ k) (IntKind.u64.wrap (IntKind.u64.wrap (rd l (at_ + k)) * 2 ^ (8 * k)))
theorem get_no (l : List Int) (A : Option Addr) (c : Nat) (at_ width : Int) (w : World) (hl : l.length ≤ 9223372036854775807)
    (h : (rightB width && insideB at_ width l.length) = false) :
    Calls Try.prog 40 #[.slice A l.length c, .int .i64 at_, .int .i64 width] w fun e w' => e = .returned (.tuple #[.int .u64 0, .bool false]) ∧ Below w.heap.size w w' := by
  cases hr : rightB width with
  | false =>
    go_enter Try.func40, Try.ntmps40
    go_wp2_with (go_at_call 55; refine (right_calls _ _).mono ?_; rintro e w' ⟨rfl, rfl⟩)
    go_ret2
    exact ⟨rfl, below_alloc (below_alloc (below_alloc (Below.refl _ _) _) _) _⟩
  | true =>
    have hi : insideB at_ width l.length = false := by simpa [hr] using h
    clear h
    go_enter Try.func40, Try.ntmps40
    go_wp2_with (first | (go_at_call 55; refine (right_calls _ _).mono ?_; rintro e w' ⟨rfl, rfl⟩) | (go_at_call 54; refine (inside_calls _ _ _ _ at_ width A l.length c hl (by go_simp) (by go_simp) (by go_simp)).mono ?_; rintro e w' ⟨rfl, rfl⟩))
    go_ret2
    exact ⟨rfl, below_alloc (below_alloc (below_alloc (Below.refl _ _) _) _) _⟩

theorem get_yes (l : List Int) (A : Option Addr) (c : Nat) (at_ width : Int) (w : World) (hx : ReadsInt w .u8 A l.length l)
    (h : (rightB width && insideB at_ width l.length) = true) :
    Calls Try.prog 40 #[.slice A l.length c, .int .i64 at_, .int .i64 width] w fun e w' => e = .returned (.tuple #[.int .u64 (getN l at_ width.toNat), .bool true]) ∧ Below w.heap.size w w' := by
  have hl := hx.2.1
  obtain ⟨hr, hi⟩ : rightB width = true ∧ insideB at_ width l.length = true := by simpa using h
  clear h
  go_enter Try.func40, Try.ntmps40
  go_wp2_with (first | (go_at_call 55; refine (right_calls _ _).mono ?_; rintro e w' ⟨rfl, rfl⟩) | (go_at_call 54; refine (inside_calls _ _ _ _ at_ width A l.length c hl (by go_simp) (by go_simp) (by go_simp)).mono ?_; rintro e w' ⟨rfl, rfl⟩))
  have hw : 0 < width ∧ width ≤ 8 := by
    have := hr
    simp only [rightB, Bool.or_eq_true, beq_iff_eq] at this
    omega
  have hii : 0 ≤ at_ ∧ at_ ≤ l.length ∧ width ≤ l.length - at_ := by
    have := hi
    simp only [insideB, Bool.and_eq_true, decide_eq_true_eq] at this
    exact this
  obtain ⟨hw0, hw8⟩ := hw
  obtain ⟨hi0, hi1, hi2⟩ := hii
  clear hr hi
  go_loop [9, 21] (fun n i => ∃ k : Nat, k ≤ width.toNat ∧ i = .int .i64 k ∧ n = .int .u64 (getN l at_ k)) (fun _ i => width.toNat - (intOf i).toNat)
  case atStart => exact ⟨0, Nat.zero_le _, rfl, rfl⟩
  case round =>
    obtain ⟨k, hk, rfl, rfl⟩ := hrel
    by_cases hlt : (k : Int) < width
    · obtain ⟨ad, rfl, hc⟩ := hx.at_ (at_ + k) (by omega) (by omega)
      have hc3 := pw_cell_below (below_alloc (below_alloc (below_alloc (Below.refl w.heap.size w) (.cells #[.slice (some ad) l.length c] 46)) (.cells #[.int .i64 at_] 3)) (.cells #[.int .i64 width] 3)) hc
      clear hc
      have hsum : IntKind.i64.wrap (at_ + k) = at_ + k := IntWalk.i64_in _ (by omega)
      go_wp2
      go_round
      case rel => exact ⟨k + 1, by omega, by go_num, rfl⟩
      case measure => simp [intOf]; omega
    · have hk2 : k = width.toNat := by omega
      go_wp2
      go_ret2
      exact ⟨rfl, below_alloc (below_alloc (below_alloc (Below.refl _ _) _) _) _⟩

end Go.Proofs.Ytliclajcifeneaa.Hand
namespace Go.Proofs.Ytliclajcifeneaa.Hand
set_option linter.unusedVariables false
set_option linter.unusedSimpArgs false
open Go.RowKit

/-- Outside the blocks of S all that lay in w lies in w' as it was. -/
structure Fr (S : Nat → Prop) (w w' : World) : Prop where
  os : w'.os = w.os
  tape : w'.tape = w.tape
  output : w'.output = w.output
  size : w.heap.size ≤ w'.heap.size
  block : ∀ k, k < w.heap.size → ¬ S k → w'.heap[k]? = w.heap[k]?

section
variable {S T : Nat → Prop} {w w1 w2 : World}
theorem Fr.refl (S : Nat → Prop) (w : World) : Fr S w w := ⟨rfl, rfl, rfl, Nat.le_refl _, fun _ _ _ => rfl⟩
theorem Fr.trans (h : Fr S w w1) (k : Fr T w1 w2) (hs : ∀ b, T b → b < w.heap.size → S b) : Fr S w w2 :=
  ⟨k.os.trans h.os, k.tape.trans h.tape, k.output.trans h.output, Nat.le_trans h.size k.size, fun b hb hn => (k.block b (Nat.lt_of_lt_of_le hb h.size) (fun ht => hn (hs b ht hb))).trans (h.block b hb hn)⟩
theorem Fr.trans' (h : Fr S w w1) (k : Fr S w1 w2) : Fr S w w2 := h.trans k (fun _ hb _ => hb)
theorem Fr.mono (h : Fr S w w1) (hs : ∀ b, S b → T b) : Fr T w w1 := ⟨h.os, h.tape, h.output, h.size, fun b hb hn => h.block b hb (fun hs' => hn (hs b hs'))⟩
theorem Fr.of_below (h : Below w.heap.size w w1) (S : Nat → Prop) : Fr S w w1 := ⟨h.os, h.tape, h.output, h.size, fun b hb _ => h.block b hb⟩
theorem Fr.below (h : Fr S w w1) (B : Nat) (hB : B ≤ w.heap.size) (hS : ∀ b, S b → B ≤ b) : Below B w w1 := ⟨h.os, h.tape, h.output, h.size, fun b hb => h.block b (Nat.lt_of_lt_of_le hb hB) (fun hs => by have := hS b hs; omega)⟩
theorem Fr.alloc (h : Fr S w w1) (o : Obj) : Fr S w (w1.alloc o) := h.trans (Fr.of_below ((Below.refl _ w1).alloc (Nat.le_refl _) o) (fun _ => False)) (fun _ hf _ => hf.elim)
theorem Fr.drew (h : Fr S w w1) : Fr S w w1.drew := ⟨h.os, h.tape, h.output, h.size, h.block⟩
theorem Fr.drewN (h : Fr S w w1) (n : Nat) : Fr S w (w1.drewN n) := ⟨h.os, h.tape, h.output, h.size, h.block⟩
theorem Fr.setCell (h : Fr S w w1) {p : Addr} (hp : S p.block ∨ w.heap.size ≤ p.block) (u : Value) : Fr S w (w1.setCell p u) :=
  h.trans (T := fun b => b = p.block) ⟨rfl, rfl, rfl, by simp [World.setCell], fun b _ hn => Below.heap_setCell _ _ _ _ hn⟩ (fun b hb hl => by subst hb; rcases hp with hp | hp; exact hp; omega)
theorem Fr.get (h : Fr S w w1) {b : Nat} {o : Obj} (hb : w.heap[b]? = some o) (hn : ¬ S b) : w1.heap[b]? = some o := (h.block b (Array.getElem?_eq_some_iff.1 hb).1 hn).trans hb
theorem Fr.grown {row : Option Nat} (h : Fr S w w1) (hg : w1.grownBy w2 row) (hr : ∀ k, row = some k → S k ∨ w.heap.size ≤ k) : Fr S w w2 :=
  h.trans (T := fun b => row = some b) ⟨hg.os, hg.tape, hg.output, hg.size, fun b hb hn => hg.block b hb (fun e => hn e.symm)⟩ (fun b hb hl => by rcases hr b hb with h | h; exact h; omega)
end
end Go.Proofs.Ytliclajcifeneaa.Hand
namespace Go.Proofs.Ytliclajcifeneaa.Hand
set_option linter.unusedVariables false
set_option linter.unusedSimpArgs false
open Go.RowKit Go.Proofs.YtliclajcifeneaaW.PrintWords

theorem width_of {width : Int} (h : rightB width = true) : width = 1 ∨ width = 2 ∨ width = 4 ∨ width = 8 := by
  simpa [rightB] using h
theorem right_yes (w : World) {a : Int} (h : rightB a = true) : Calls Try.prog 55 #[.int .i64 a] w fun e w' => e = .returned (.bool true) ∧ w = w' := (right_calls a w).mono fun e w' he => ⟨by rw [he.1, h], he.2⟩
theorem right_nay (w : World) {a : Int} (h : rightB a = false) : Calls Try.prog 55 #[.int .i64 a] w fun e w' => e = .returned (.bool false) ∧ w = w' := (right_calls a w).mono fun e w' he => ⟨by rw [he.1, h], he.2⟩

def fitsB (n width : Int) : Bool := rightB width && (width == 8 || n / 2 ^ (8 * width).toNat == 0)

theorem fits_calls (n width : Int) (w : World) : Calls Try.prog 52 #[.int .u64 n, .int .i64 width, .bool false] w fun e w' => e = .returned (.bool (fitsB n width)) ∧ w = w' := by
  cases hr : rightB width with
  | false =>
    have HR := Aside0.mk hr
    clear hr
    go_enter Try.func52, Try.ntmps52
    go_wp2_with (go_at_call 55; refine (right_nay _ HR.out).mono ?_; rintro e w' ⟨rfl, rfl⟩)
    go_ret
    exact ⟨by rw [fitsB, HR.out]; rfl, rfl⟩
  | true =>
    rcases width_of hr with rfl | rfl | rfl | rfl
    all_goals
      clear hr
      go_enter Try.func52, Try.ntmps52
      go_wp2_with (go_at_call 55; refine (right_yes _ rfl).mono ?_; rintro e w' ⟨rfl, rfl⟩)
      go_ret
      exact ⟨rfl, rfl⟩

theorem fits_yes (w : World) {n width : Int} (h : fitsB n width = true) : Calls Try.prog 52 #[.int .u64 n, .int .i64 width, .bool false] w fun e w' => e = .returned (.bool true) ∧ w = w' := (fits_calls n width w).mono fun e w' he => ⟨by rw [he.1, h], he.2⟩
/-- The lowest k bytes of n, the lowest first. -/
def leB (n : Int) : Nat → List Int
  | 0 => []
  | k + 1 => leB n k ++ [n / 2 ^ (8 * k) % 256]
theorem leB_length (n : Int) (k : Nat) : (leB n k).length = k := by induction k with
  | zero => rfl
  | succ k ih => simp [leB, ih]

theorem info_u8 : (Try.prog.info? 5).map (fun i => (i.zero, i.size, i.bytes)) = some (some (.int .u8 0), 1, 1) := by kernel_rfl

set_option maxHeartbeats 1000000 in
theorem put_calls (P : Nat → Prop) (v : Value) (l : List Int) (width n : Int) (w : World) (ho : Kd.R (Kd.int .u8) 5 w 0 P v l) (h : fitsB n width = true) (hl : l.length + 8 ≤ 140737488355328) :
    Calls Try.prog 38 #[v, .int .i64 width, .int .u64 n] w fun e w' => ∃ v' : Value, e = .returned (.tuple #[v', .bool true]) ∧ Kd.R (Kd.int .u8) 5 w' 0 (fun k => P k ∨ w.heap.size ≤ k) v' (l ++ leB n width.toNat) ∧ Fr P w w' := by
  have hw : 0 < width ∧ width ≤ 8 := by
    have := h
    simp only [fitsB, Bool.and_eq_true] at this
    rcases width_of this.1 with rfl | rfl | rfl | rfl <;> omega
  have HF := Aside0.mk h
  have HO := Aside0.mk ho
  obtain ⟨hw0, hw8⟩ := hw
  clear h ho
  go_enter Try.func38, Try.ntmps38
  go_wp2_with (go_at_call 52; refine (fits_yes _ HF.out).mono ?_; rintro e w' ⟨rfl, rfl⟩)
  go_loopw [0, 15] (fun v0 i wr => ∃ k : Nat, k ≤ width.toNat ∧ i = .int .i64 k ∧ Aside0 (Kd.R (Kd.int .u8) 5 wr 0 (fun k => P k ∨ w.heap.size ≤ k) v0 (l ++ leB n k)) ∧ Aside0 (Fr P w wr)) (fun _ i _ => width.toNat - (intOf i).toNat)
  case atStart => exact ⟨0, Nat.zero_le _, rfl, ⟨by simpa [leB] using Kd.R_mono HO.out (fun k hk => .inl hk)⟩, ⟨Fr.refl _ _⟩⟩
  case round =>
    obtain ⟨k, hk, rfl, HOr, HFr⟩ := hrel
    by_cases hlt : (k : Int) < width
    · have hk2 : k < 8 := by omega
      have HL := Aside0.mk (leB_length n k)
      go_wp2_with (at_builtin; refine Kd.R_append (Kd.int .u8) (w0 := wr) 0 rfl (.tmp 18) (.tmp 24) 46 5 (.int .u8 0) 1 rfl Try.underlying46 info_u8 rfl (by decide) (by omega) u0 (l ++ leB n k) (n / 2 ^ (8 * k) % 256) [.int .u8 (n / 2 ^ (8 * k) % 256)] (fun k => P k ∨ w.heap.size ≤ k) (fun _ => False) rfl rfl ?aP (fun _ hk => hk.elim) ?aF ?aO ?aB ?aS ?aL ?_)
      case aP => exact rfl
      case aF => exact fun k hk => .inr (Nat.le_trans HFr.out.size hk)
      case aO => exact HOr.out
      case aB => exact Below.refl _ _
      case aS => exact Nat.zero_le _
      case aL => have := HL.out; simp; omega
      intro v1 w1 ho hb hg hat
      have HOn := Aside0.mk ho
      have HFn := Aside0.mk ((HFr.out).grown hg HOr.out.1)
      clear ho hb hg hat
      go_wp2
      go_roundw
      case rel => exact ⟨k + 1, by omega, by go_num, ⟨by rw [leB]; exact HOn.out⟩, ⟨HFn.out⟩⟩
      case measure => simp [intOf]; omega
    · have hk2 : k = width.toNat := by omega
      have HE := Aside0.mk hk2
      clear hk2
      go_wp2
      go_ret2
      exact ⟨_, rfl, HE.out ▸ HOr.out, HFr.out⟩
end Go.Proofs.Ytliclajcifeneaa.Hand
namespace Go.Proofs.Ytliclajcifeneaa.Hand
set_option linter.unusedVariables false
set_option linter.unusedSimpArgs false
open Go.RowKit Go.Proofs.YtliclajcifeneaaW.PrintWords
section
variable {P : Program} {ops : Array Oper} {rest : List Oper} {o : Oper} {a : Act} {Q : Exit → Act → World → Prop}

/-- At the builtin b with these operands, and nowhere else. -/
theorem gate_bi {b : Builtin} {xs : Array Operand} {ts : Array TypeId} {W : World} (_ho : o.op = .call { callee := .builtin b, args := xs, argTypes := ts }) (h : wpList P ops Q (o :: rest) a W) : wpList P ops Q (o :: rest) a W := h
end
end Go.Proofs.Ytliclajcifeneaa.Hand
namespace Go.Proofs.Ytliclajcifeneaa.Hand
set_option linter.unusedVariables false
set_option linter.unusedSimpArgs false
open Go.RowKit Go.Proofs.YtliclajcifeneaaW.PrintWords

end Go.Proofs.Ytliclajcifeneaa.Hand
namespace Go.Proofs.Ytliclajcifeneaa.Hand
set_option linter.unusedVariables false
set_option linter.unusedSimpArgs false
open Go.RowKit Go.Proofs.YtliclajcifeneaaW.PrintWords

end Go.Proofs.Ytliclajcifeneaa.Hand
namespace Go.Proofs.Ytliclajcifeneaa.Hand
set_option linter.unusedVariables false
set_option linter.unusedSimpArgs false
open Go.RowKit Go.Proofs.YtliclajcifeneaaW.PrintWords

section
variable {α : Type} {enc : α → List Value} {sz : Nat} {hl : ∀ x, (enc x).length = sz} {h1 : ∀ x, ∀ u ∈ enc x, u.oneCell' = true}
end
end Go.Proofs.Ytliclajcifeneaa.Hand
namespace Go.Proofs.Ytliclajcifeneaa.Hand
set_option linter.unusedVariables false
set_option linter.unusedSimpArgs false
open Go.RowKit Go.Proofs.YtliclajcifeneaaW.PrintWords

theorem blk_lt {w : World} {b : Nat} {o : Obj} (h : w.heap[b]? = some o) : b < w.heap.size := (Array.getElem?_eq_some_iff.1 h).1
theorem old_blk {w : World} {b : Nat} {o : Obj} (h : w.heap[b]? = some o) (o' : Obj) : (w.alloc o').heap[b]? = some o := (heap_alloc_old _ _ (blk_lt h)).trans h
theorem cell_alloc {w : World} {a : Addr} {v : Value} (h : w.cell? a = some v) : ∀ o, (w.alloc o).cell? a = some v := fun o => by
  rw [World.cell?_alloc_lt _ _ _ (World.block_lt_of_cell? w a h)]
  exact h
/-- A cell of a block whose cells are known. -/
theorem blk_cell {w : World} {b : Nat} {vs : Array Value} {t : TypeId} {fr : Nat × Nat} (h : w.heap[b]? = some (.cells vs t fr)) {i : Nat} {v : Value} (hv : vs[i]? = some v) : w.cell? ⟨b, i, none⟩ = some v := by
  simp only [World.cell?, h]
  simpa using hv
theorem blk_free {w : World} {b : Nat} {vs : Array Value} {t : TypeId} (h : w.heap[b]? = some (.cells vs t (0, 0))) (i : Nat) : w.frozen? ⟨b, i, none⟩ = false := by
  simp only [World.frozen?, h]
  simp
theorem blk_set {w : World} {b : Nat} {vs : Array Value} {t : TypeId} {fr : Nat × Nat} (h : w.heap[b]? = some (.cells vs t fr)) (i : Nat) (u : Value) : (w.setCell ⟨b, i, none⟩ u).heap[b]? = some (.cells (vs.setIfInBounds i u) t fr) := by
  simp [World.setCell, Array.getElem?_modify, h]
theorem blk_far {w : World} {b : Nat} {o : Obj} (h : w.heap[b]? = some o) {a : Addr} (u : Value) (hne : b ≠ a.block) : (w.setCell a u).heap[b]? = some o := (Below.heap_setCell w a u b hne).trans h
theorem results_row_tmp {P : Program} {fn : Func} {p u : Tmp} {ty : TypeId} (h : fn.results = #[.cell p ty, .tmp u]) (tmps : Array Value) (w : World) (g : Nat) (t : TypeId) (cs : Array Value) (fr : Nat × Nat) (d : TypeDesc)
    (hp : tmps.getD p undef = .pointer (some ⟨g, 0, none⟩)) (hg : w.heap[g]? = some (.cells cs t fr))
    (hu : P.underlying ty = some d) (hd : (match d with | .struct _ | .array _ _ => true | _ => false) = true) (hi : (P.info? ty).map (·.size) = some cs.size) :
    (results fn tmps).run P w = .ok (.tuple #[.agg cs, tmps.getD u undef]) w := by
  rw [results_cell_tmp h, hp]
  simp [asAddr, run_loadVar_row w g t ty cs fr d hg hu hd hi]
theorem cell_far {w : World} {a : Addr} {v : Value} (h : w.cell? a = some v) {p : Addr} (u : Value) (hne : p.block ≠ a.block) : (w.setCell p u).cell? a = some v := (World.cell?_setCell_other w p a u (fun e => hne (by rw [e]))).trans h
theorem alloc_two (w : World) (o1 o2 : Obj) : ((w.alloc o1).alloc o2).heap[w.heap.size + 1]? = some o2 := by
  have := heap_alloc_new (w.alloc o1) o2
  simpa [World.alloc_eq] using this
end Go.Proofs.Ytliclajcifeneaa.Hand
namespace Go.Proofs.Ytliclajcifeneaa.Hand
set_option linter.unusedVariables false
set_option linter.unusedSimpArgs false
open Go.RowKit Go.Proofs.YtliclajcifeneaaW.PrintWords

theorem rRight_calls (a : Int) (w : World) : Calls Try.prog 56 #[.int .i64 a] w fun e w' => e = .returned (.bool (rightB a)) ∧ w = w' := by
  by_cases h1 : a = 1
  · go_enter Try.func56, Try.ntmps56
    go_wp2
    go_ret
    exact ⟨by simp [rightB, h1], rfl⟩
  · by_cases h2 : a = 2
    · go_enter Try.func56, Try.ntmps56
      go_wp2
      go_ret
      exact ⟨by simp [rightB, h2], rfl⟩
    · by_cases h3 : a = 4
      · go_enter Try.func56, Try.ntmps56
        go_wp2
        go_ret
        exact ⟨by simp [rightB, h3], rfl⟩
      · go_enter Try.func56, Try.ntmps56
        go_wp2
        go_ret
        exact ⟨by rw [rightB, beq_false_of_ne h1, beq_false_of_ne h2, beq_false_of_ne h3]; rfl, rfl⟩
theorem rRight_of (w : World) {a : Int} {b : Bool} (h : rightB a = b) : Calls Try.prog 56 #[.int .i64 a] w fun e w' => e = .returned (.bool b) ∧ w = w' := (rRight_calls a w).mono fun e w' he => ⟨by rw [he.1, h], he.2⟩

def topN (width : Int) : Int := if width = 1 then 255 else if width = 2 then 65535 else if width = 4 then 4294967295 else 18446744073709551615
set_option maxHeartbeats 1000000 in
theorem rTop_calls (width : Int) (h : rightB width = true) (w : World) : Calls Try.prog 57 #[.int .i64 width] w fun e w' => e = .returned (.int .u64 (topN width)) ∧ w = w' := by
  rcases width_of h with rfl | rfl | rfl | rfl
  all_goals
    clear h
    go_enter Try.func57, Try.ntmps57
    go_wp2
    go_rounds 9
    go_ret
    exact ⟨rfl, rfl⟩

theorem str_app (a b : List Int) : strOfNums a ++ strOfNums b = strOfNums (a ++ b) := by
  apply ByteArray.ext
  rw [ByteArray.data_append]
  simp [strOfNums]

def rfitsB (n width : Int) : Bool := rightB width && decide (n ≤ topN width)
set_option maxHeartbeats 1000000 in
theorem rPut_yes (width n : Int) (w : World) (h : rfitsB n width = true) (hn : 0 ≤ n) : Calls Try.prog 44 #[.int .i64 width, .int .u64 n] w fun e w' => e = .returned (.string (strOfNums (leB n width.toNat))) ∧ Below w.heap.size w w' := by
  obtain ⟨hr, ht⟩ : rightB width = true ∧ n ≤ topN width := by simpa [rfitsB] using h
  have hw : 0 < width ∧ width ≤ 8 := by
    rcases width_of hr with rfl | rfl | rfl | rfl <;> omega
  have hm : n ≤ 18446744073709551615 := by
    refine Int.le_trans ht ?_
    unfold topN
    repeat' split
    all_goals omega
  obtain ⟨hw0, hw8⟩ := hw
  have HR := Aside0.mk hr
  clear h hr
  have hq : ∀ k : Nat, 0 ≤ n / 2 ^ (8 * k) ∧ n / 2 ^ (8 * k) ≤ 18446744073709551615 := fun k => by
    have h2 : (0 : Int) < 2 ^ (8 * k) := Int.pow_pos (by omega)
    exact ⟨Int.ediv_nonneg hn (by omega), Int.le_trans (Int.ediv_le_self _ hn) hm⟩
  have HQ := Aside0.mk hq
  clear hq hm
  go_enter Try.func44, Try.ntmps44
  go_wp2_with (first | (go_at_call 56; refine (rRight_of _ HR.out).mono ?_; rintro e w' ⟨rfl, rfl⟩) | (go_at_call 57; refine (rTop_calls width HR.out _).mono ?_; rintro e w' ⟨rfl, rfl⟩))
  clear ht
  go_loopw [1, 5, 6] (fun vn vs i wr => ∃ (k : Nat) (q : Int), k ≤ width.toNat ∧ i = .int .i64 k ∧ vn = .int .u64 q ∧ Aside0 (q = n / 2 ^ (8 * k)) ∧ vs = .string (strOfNums (leB n k)) ∧ Below w.heap.size w wr) (fun _ _ i _ => width.toNat - (intOf i).toNat)
  case atStart => exact ⟨0, n, Nat.zero_le _, rfl, rfl, ⟨by simp⟩, rfl, Below.refl _ _⟩
  case round =>
    obtain ⟨k, q, hk, rfl, rfl, hq, rfl, hb⟩ := hrel
    have hq0 : 0 ≤ q ∧ q ≤ 18446744073709551615 := hq.out ▸ HQ.out k
    obtain ⟨hq0, hq1⟩ := hq0
    have HB := Aside0.mk hb
    clear hb
    by_cases hlt : (k : Int) < width
    · have hconv := run_convert_bytes_arg (P := Try.prog) (wr.alloc (.cells #[.int .u8 (q % 256)] 5)) 46 5 Try.underlying46 Try.underlying5 wr.heap.size 0 1 1 [q % 256] rfl (fun i hi => by (obtain rfl : i = 0 := by omega); simp) 9 Try.underlying9
      have hz1 : (strOfNums (leB n k)).size ≤ 8 := by rw [strOfNums_size, leB_length]; omega
      have hz2 : (strOfNums [q % 256]).size ≤ 1 := by rw [strOfNums_size]; exact Nat.le_refl _
      go_wp2
      go_roundw
      case rel => exact ⟨k + 1, q / 256, by omega, by go_num, rfl, ⟨by rw [hq.out, Int.ediv_ediv_of_nonneg (Int.le_of_lt (Int.pow_pos (by omega))), Nat.mul_add, Int.pow_add]; rfl⟩, by rw [str_app, leB, hq.out], below_alloc HB.out _⟩
      case measure => simp [intOf]; omega
    · have hk2 : k = width.toNat := by omega
      have HE := Aside0.mk hk2
      clear hk2
      go_wp2
      go_ret
      exact ⟨by rw [← HE.out]; rfl, HB.out⟩
end Go.Proofs.Ytliclajcifeneaa.Hand
namespace Go.Proofs.Ytliclajcifeneaa.Hand
set_option linter.unusedVariables false
set_option linter.unusedSimpArgs false
open Go.RowKit Go.Proofs.YtliclajcifeneaaW.PrintWords

def Bys (l : List Int) : Prop := ∀ x ∈ l, 0 ≤ x ∧ x < 256
theorem rd_bys {l : List Int} (h : Bys l) (i : Int) : 0 ≤ rd l i ∧ rd l i < 256 := by
  unfold rd
  rcases Nat.lt_or_ge i.toNat l.length with hl | hl
  · rw [List.getD_eq_getElem?_getD, List.getElem?_eq_getElem hl]
    exact h _ (List.getElem_mem hl)
  · rw [List.getD_eq_getElem?_getD, List.getElem?_eq_none hl]
    exact ⟨Int.le_refl _, by decide⟩
theorem bytesOf_bys (s : ByteArray) : Bys (bytesOf s) := by
  intro x hx
  simp only [bytesOf, List.mem_map] at hx
  obtain ⟨b, _, rfl⟩ := hx
  have := b.toNat_lt
  omega
/-- The number of bytes, the lowest first. -/
def numL : List Int → Int
  | [] => 0
  | x :: l => x + 256 * numL l
theorem numL_nonneg {l : List Int} (h : Bys l) : 0 ≤ numL l := by
  induction l with
  | nil => exact Int.le_refl _
  | cons x l ih =>
    have := ih (fun y hy => h y (List.mem_cons_of_mem _ hy))
    have := h x List.mem_cons_self
    unfold numL
    omega
theorem numL_lt {l : List Int} (h : Bys l) : numL l < 256 ^ l.length := by
  induction l with
  | nil => decide
  | cons x l ih =>
    have := ih (fun y hy => h y (List.mem_cons_of_mem _ hy))
    have := h x List.mem_cons_self
    unfold numL
    rw [List.length_cons, Int.pow_succ]
    omega
theorem numL_append (l m : List Int) : numL (l ++ m) = numL l + 256 ^ l.length * numL m := by
  induction l with
  | nil => simp [numL]
  | cons x l ih =>
    rw [List.cons_append, numL, numL, ih, List.length_cons, Int.pow_succ, Int.mul_add, ← Int.mul_assoc, Int.add_assoc, Int.mul_comm 256 (256 ^ l.length)]
/-- So many bytes from at_ on. -/
def cut (l : List Int) (a w : Nat) : List Int := (l.drop a).take w
theorem cut_bys {l : List Int} (h : Bys l) (a w : Nat) : Bys (cut l a w) := fun x hx => h x (List.mem_of_mem_drop (List.mem_of_mem_take hx))
theorem cut_length {l : List Int} {a w : Nat} (h : a + w ≤ l.length) : (cut l a w).length = w := by
  simp only [cut, List.length_take, List.length_drop]
  omega
theorem cut_succ {l : List Int} {a k : Nat} (h : a + k < l.length) : cut l a (k + 1) = cut l a k ++ [rd l ((a : Int) + k)] := by
  have hd : k < (l.drop a).length := by rw [List.length_drop]; omega
  rw [cut, cut, List.take_succ_eq_append_getElem hd, List.getElem_drop]
  congr 2
  unfold rd
  rw [show ((a : Int) + k).toNat = a + k by omega, List.getD_eq_getElem?_getD, List.getElem?_eq_getElem h]
  rfl
/-- The number from the highest byte down, as the reference reckons it. -/
def hiN (l : List Int) (a : Int) (w : Nat) : Nat → Int
  | 0 => 0
  | j + 1 => hiN l a w j * 256 + rd l (a + (w - 1 - j : Int))
theorem hiN_range {l : List Int} (h : Bys l) (a : Int) (w j : Nat) : 0 ≤ hiN l a w j ∧ hiN l a w j < 256 ^ j := by
  induction j with
  | zero => exact ⟨Int.le_refl _, by simp [hiN]⟩
  | succ j ih =>
    have := rd_bys h (a + (w - 1 - j : Int))
    unfold hiN
    rw [Int.pow_succ]
    omega
theorem hiN_eq {l : List Int} (a w j : Nat) (hj : j ≤ w) (h : a + w ≤ l.length) : hiN l a w j = numL (cut l (a + (w - j)) j) := by
  induction j with
  | zero => simp [hiN, cut, numL]
  | succ j ih =>
    rw [hiN, ih (by omega)]
    have hlt : a + (w - (j + 1)) < l.length := by omega
    have e : cut l (a + (w - (j + 1))) (j + 1) = rd l ((a : Int) + (w - 1 - j : Int)) :: cut l (a + (w - j)) j := by
      unfold cut
      rw [List.drop_eq_getElem_cons hlt, List.take_succ_cons, show a + (w - (j + 1)) + 1 = a + (w - j) by omega]
      congr 1
      unfold rd
      rw [show ((a : Int) + (w - 1 - j : Int)).toNat = a + (w - (j + 1)) by omega, List.getD_eq_getElem?_getD, List.getElem?_eq_getElem hlt]
      rfl
    rw [e, numL]
    omega
theorem pow256 (k : Nat) : (256 : Int) ^ k = 2 ^ (8 * k) := by
  rw [Int.pow_mul]
  rfl
theorem u64_wrap_of {x : Int} (h0 : 0 ≤ x) (h1 : x < 18446744073709551616) : IntKind.u64.wrap x = x := by
  have : IntKind.u64.wrap x = x % 18446744073709551616 := by simp [IntKind.wrap, IntKind.signed, IntKind.bits]
  omega
theorem or_split (a x : Int) (k : Nat) (hk : k < 8) (ha : 0 ≤ a) (ha2 : a < 2 ^ (8 * k)) (hx : 0 ≤ x) (hx2 : x < 256) : bits .or .u64 a (x * 2 ^ (8 * k)) = a + 2 ^ (8 * k) * x := by
  obtain ⟨a, rfl⟩ := Int.eq_ofNat_of_zero_le ha
  obtain ⟨x, rfl⟩ := Int.eq_ofNat_of_zero_le hx
  have ha3 : a < 2 ^ (8 * k) := by exact_mod_cast ha2
  have hx3 : x < 256 := by omega
  have hp : (2 : Nat) ^ (8 * k) ≤ 2 ^ 56 := Nat.pow_le_pow_right (by omega) (by omega)
  have hm : x * 2 ^ (8 * k) < 18446744073709551616 := by
    calc x * 2 ^ (8 * k) ≤ 255 * 2 ^ 56 := Nat.mul_le_mul (by omega) hp
      _ < 18446744073709551616 := by decide
  have e : ((x : Int) * 2 ^ (8 * k)) = ((x * 2 ^ (8 * k) : Nat) : Int) := by push_cast; rfl
  rw [e, u64_or_nat a _ (by omega) hm]
  have h2 := Nat.shiftLeft_add_eq_or_of_lt ha3 x
  rw [Nat.shiftLeft_eq] at h2
  rw [Nat.or_comm, ← h2]
  push_cast
  rw [Int.mul_comm, Int.add_comm]
theorem getN_eq {l : List Int} (hb : Bys l) (a k : Nat) (hk : k ≤ 8) (h : a + k ≤ l.length) : getN l a k = numL (cut l a k) := by
  induction k with
  | zero => simp [getN, cut, numL]
  | succ k ih =>
    have hx := rd_bys hb ((a : Int) + k)
    have hl := numL_lt (cut_bys hb a k)
    rw [cut_length (by omega), pow256] at hl
    have h0 := numL_nonneg (cut_bys hb a k)
    have hp : (2 : Int) ^ (8 * k) ≤ 2 ^ 56 := by
      have : (2 : Nat) ^ (8 * k) ≤ 2 ^ 56 := Nat.pow_le_pow_right (by omega) (by omega)
      exact_mod_cast this
    have hp0 : (0 : Int) < 2 ^ (8 * k) := Int.pow_pos (by omega)
    have hm : rd l ((a : Int) + k) * 2 ^ (8 * k) < 18446744073709551616 := by
      calc rd l ((a : Int) + k) * 2 ^ (8 * k) ≤ 255 * 2 ^ 56 := Int.mul_le_mul (by omega) hp (by omega) (by omega)
        _ < 18446744073709551616 := by decide
    have hm0 : 0 ≤ rd l ((a : Int) + k) * 2 ^ (8 * k) := Int.mul_nonneg hx.1 (by omega)
    rw [getN, ih (by omega) (by omega), u64_wrap_of hx.1 (by omega), u64_wrap_of hm0 hm, or_split _ _ k (by omega) h0 hl hx.1 hx.2, cut_succ (by omega), numL_append, cut_length (by omega), pow256]
    simp [numL]
end Go.Proofs.Ytliclajcifeneaa.Hand
namespace Go.Proofs.Ytliclajcifeneaa.Hand
set_option linter.unusedVariables false
set_option linter.unusedSimpArgs false
open Go.RowKit
end Go.Proofs.Ytliclajcifeneaa.Hand
namespace Go.Proofs.Ytliclajcifeneaa.Hand
set_option linter.unusedVariables false
set_option linter.unusedSimpArgs false
open Go.RowKit Go.Proofs.YtliclajcifeneaaW.PrintWords

set_option maxHeartbeats 1000000 in
theorem rGet_no (s : ByteArray) (at_ width : Int) (w : World) (h : (rightB width && insideB at_ width s.size) = false) :
    Calls Try.prog 42 #[.string s, .int .i64 at_, .int .i64 width] w fun e w' => e = .returned (.tuple #[.int .u64 0, .bool false]) ∧ w = w' := by
  cases hr : rightB width with
  | false =>
    have HR := Aside0.mk hr
    clear h hr
    go_enter Try.func42, Try.ntmps42
    go_wp2_with (go_at_call 56; refine (rRight_of _ HR.out).mono ?_; rintro e w' ⟨rfl, rfl⟩)
    go_ret2
    exact ⟨rfl, rfl⟩
  | true =>
    have hi : insideB at_ width s.size = false := by simpa [hr] using h
    have hw : width ≤ 8 := by rcases width_of hr with rfl | rfl | rfl | rfl <;> omega
    have HR := Aside0.mk hr
    clear h hr
    by_cases h0 : at_ < 0
    · clear hi
      go_enter Try.func42, Try.ntmps42
      go_wp2_with (go_at_call 56; refine (rRight_of _ HR.out).mono ?_; rintro e w' ⟨rfl, rfl⟩)
      go_ret2
      exact ⟨rfl, rfl⟩
    · by_cases h1 : at_ > (s.size : Int)
      · clear hi
        go_enter Try.func42, Try.ntmps42
        go_wp2_with (go_at_call 56; refine (rRight_of _ HR.out).mono ?_; rintro e w' ⟨rfl, rfl⟩)
        go_ret2
        exact ⟨rfl, rfl⟩
      · have h2 : (s.size : Int) - at_ < width := by
          have : ¬ (0 ≤ at_ ∧ at_ ≤ (s.size : Int) ∧ width ≤ (s.size : Int) - at_) := by
            intro hh
            rw [insideB, decide_eq_true hh.1, decide_eq_true hh.2.1, decide_eq_true hh.2.2] at hi
            exact absurd hi (by decide)
          omega
        clear hi
        go_enter Try.func42, Try.ntmps42
        go_wp2_with (go_at_call 56; refine (rRight_of _ HR.out).mono ?_; rintro e w' ⟨rfl, rfl⟩)
        go_ret2
        exact ⟨rfl, rfl⟩

theorem pow_le7 (j : Nat) (h : j ≤ 7) : (256 : Int) ^ j ≤ 72057594037927936 := by
  have h1 : 256 ^ j ≤ 256 ^ 7 := Nat.pow_le_pow_right (by omega) h
  have h2 : (256 : Int) ^ j = ((256 ^ j : Nat) : Int) := (Int.natCast_pow 256 j).symm
  have h3 : (256 : Nat) ^ 7 = 72057594037927936 := by decide
  omega
theorem inside_of {at_ width : Int} {n : Nat} (h : (rightB width && insideB at_ width n) = true) : ∃ a m : Nat, at_ = a ∧ width = m ∧ 0 < m ∧ m ≤ 8 ∧ a + m ≤ n := by
  have hii : rightB width = true ∧ 0 ≤ at_ ∧ at_ ≤ n ∧ width ≤ n - at_ := by
    simpa only [insideB, Bool.and_eq_true, decide_eq_true_eq] using h
  obtain ⟨hr, h0, h1, h2⟩ := hii
  have hw : 0 < width ∧ width ≤ 8 := by
    rcases width_of hr with rfl | rfl | rfl | rfl <;> omega
  exact ⟨at_.toNat, width.toNat, by omega, by omega, by omega, by omega, by omega⟩

set_option maxHeartbeats 1000000 in
theorem rGet_yes (s : ByteArray) (at_ width : Int) (w : World) (hs : s.size ≤ 140737488355328) (h : (rightB width && insideB at_ width s.size) = true) :
    Calls Try.prog 42 #[.string s, .int .i64 at_, .int .i64 width] w fun e w' => e = .returned (.tuple #[.int .u64 (numL (cut (bytesOf s) at_.toNat width.toNat)), .bool true]) ∧ w = w' := by
  obtain ⟨a, m, rfl, rfl, hm0, hm8, ham⟩ := inside_of h
  have HR := Aside0.mk (show rightB m = true by simpa using (Bool.and_eq_true_iff.1 h).1)
  have HH := Aside0.mk (fun j => hiN_range (bytesOf_bys s) a m j)
  have h1 : ¬ ((a : Int) > (s.size : Int)) := by omega
  have h2 : ¬ ((s.size : Int) - (a : Int) < (m : Int)) := by omega
  clear h
  go_enter Try.func42, Try.ntmps42
  go_wp2_with (go_at_call 56; refine (rRight_of _ HR.out).mono ?_; rintro e w' ⟨rfl, rfl⟩)
  go_loop [8, 9] (fun vn i => ∃ (j : Nat) (q : Int), j ≤ m ∧ i = .int .i64 ((m : Int) - 1 - j) ∧ vn = .int .u64 q ∧ Aside0 (q = hiN (bytesOf s) a m j)) (fun _ i => (intOf i + 1).toNat)
  case atStart => exact ⟨0, 0, Nat.zero_le _, by go_num, rfl, ⟨rfl⟩⟩
  case round =>
    obtain ⟨j, q, hj, rfl, rfl, hq⟩ := hrel
    by_cases hlt : j < m
    · have hq0 : 0 ≤ q ∧ q * 256 + 256 ≤ 18446744073709551616 := by
        have := HH.out j
        rw [← hq.out] at this
        have hp := pow_le7 j (by omega)
        omega
      obtain ⟨hq0, hq1⟩ := hq0
      have hb := bt_at s (a + ((m : Int) - 1 - j))
      have hb2 := bt_range s (a + ((m : Int) - 1 - j))
      obtain ⟨hb2, hb3⟩ := hb2
      have HS := Aside0.mk (show hiN (bytesOf s) a m (j + 1) = q * 256 + bt s (a + ((m : Int) - 1 - j)) by rw [hiN, hq.out, rd_bytesOf])
      go_wp2
      go_round
      case rel => exact ⟨j + 1, _, by omega, by go_num, rfl, ⟨HS.out.symm⟩⟩
      case measure => simp [intOf]; omega
    · obtain rfl : j = m := by omega
      have HE := Aside0.mk (hiN_eq (l := bytesOf s) a j j (Nat.le_refl _) (by rw [bytesOf_length]; exact ham))
      go_wp2
      go_ret2
      exact ⟨by rw [hq.out, HE.out]; simp, rfl⟩

end Go.Proofs.Ytliclajcifeneaa.Hand
namespace Go.Proofs.Ytliclajcifeneaa.Hand
set_option linter.unusedVariables false
set_option linter.unusedSimpArgs false
open Go.RowKit Go.Proofs.YtliclajcifeneaaW.PrintWords

end Go.Proofs.Ytliclajcifeneaa.Hand
namespace Go.Proofs.Ytliclajcifeneaa.Hand
set_option linter.unusedVariables false
set_option linter.unusedSimpArgs false
open Go.RowKit Go.Proofs.YtliclajcifeneaaW.PrintWords

theorem conv_some {w : World} (a : Addr) {c : Nat} {xs : List Int} (h : ReadsInt w .u8 (some a) xs.length xs) : (convert 46 9 (.slice (some a) xs.length c)).run Try.prog w = .ok (.string (strOfNums xs)) w := by
  have hl : (loadCells a xs.length).run Try.prog w = .ok (xs.map (Value.int .u8)).toArray w := by
    have := run_loadCells_list (P := Try.prog) w a (xs.map (Value.int .u8)) (fun j v hj => by
      have hjl : j < xs.length := by
        rcases Nat.lt_or_ge j xs.length with h | h
        · exact h
        · simp [List.getElem?_eq_none (show (xs.map (Value.int .u8)).length ≤ j by simpa using h)] at hj
      obtain ⟨ad, he, hc⟩ := h.2.2 (by omega)
      obtain rfl := Option.some.inj he
      rw [hc j hjl]
      simp [List.getElem?_eq_getElem hjl] at hj
      subst hj
      simp [List.getD, List.getElem?_eq_getElem hjl])
    simpa using this
  rw [run_convert_bytes_string w 46 9 5 _ xs.length c Try.underlying46 Try.underlying5 Try.underlying9, run_bytesToString w _ xs.length c xs hl, foldl_push_bytes]
  simp [strOfNums, ByteArray.empty, ByteArray.emptyWithCapacity]
  rfl
theorem conv_reads {w : World} {A : Option Addr} {c : Nat} {xs : List Int} (h : ReadsInt w .u8 A xs.length xs) : (convert 46 9 (.slice A xs.length c)).run Try.prog w = .ok (.string (strOfNums xs)) w := by
  cases A with
  | none =>
    obtain rfl : xs = [] := by
      cases xs with
      | nil => rfl
      | cons x l => exact absurd (h.2.2 (by simp)) (by simp)
    exact run_convert_bytes_nil w 46 5 Try.underlying46 Try.underlying5 0 c 9 Try.underlying9
  | some a =>
    exact conv_some a h
theorem info_of : ∃ i, Try.prog.info? 5 = some i ∧ i.size = 1 := by
  obtain ⟨i, hi, hz⟩ := Option.map_eq_some_iff.1 info_u8
  simp only [Prod.mk.injEq] at hz
  exact ⟨i, hi, hz.2.1⟩
/-- What Get tells, as one number and one answer. -/
def gNum (l : List Int) (at_ width : Int) : Int := if rightB width && insideB at_ width l.length then numL (cut l at_.toNat width.toNat) else 0
theorem get_any (A : Option Addr) (c : Nat) (l : List Int) (at_ width : Int) (w : World) (hr : ReadsInt w .u8 A l.length l) (hb : Bys l) :
    Calls Try.prog 40 #[.slice A l.length c, .int .i64 at_, .int .i64 width] w fun e w' => e = .returned (.tuple #[.int .u64 (gNum l at_ width), .bool (rightB width && insideB at_ width l.length)]) ∧ Below w.heap.size w w' := by
  cases h : (rightB width && insideB at_ width l.length) with
  | true =>
    obtain ⟨a, m, rfl, rfl, hm0, hm8, ham⟩ := inside_of h
    refine (get_yes l A c a m w hr h).mono fun e w' he => ⟨?_, he.2⟩
    rw [he.1, gNum, h, if_pos rfl, Int.toNat_natCast, getN_eq hb a m hm8 ham]
    rfl
  | false =>
    refine (get_no l A c at_ width w hr.2.1 h).mono fun e w' he => ⟨?_, he.2⟩
    rw [he.1, gNum, h]
    rfl
theorem bytes_str {l : List Int} (hb : Bys l) : bytesOf (strOfNums l) = l := by
  unfold bytesOf
  rw [strOfNums_data, List.map_map]
  conv => rhs; rw [← List.map_id l]
  apply List.map_congr_left
  intro x hx
  have := hb x hx
  simp only [Function.comp, UInt8.toNat_ofNat', id]
  omega
theorem rGet_any (l : List Int) (at_ width : Int) (w : World) (hb : Bys l) (hs : l.length ≤ 140737488355328) :
    Calls Try.prog 42 #[.string (strOfNums l), .int .i64 at_, .int .i64 width] w fun e w' => e = .returned (.tuple #[.int .u64 (gNum l at_ width), .bool (rightB width && insideB at_ width l.length)]) ∧ w = w' := by
  cases h : (rightB width && insideB at_ width l.length) with
  | true =>
    refine (rGet_yes (strOfNums l) at_ width w (by rw [strOfNums_size]; exact hs) (by rw [strOfNums_size]; exact h)).mono fun e w' he => ⟨?_, he.2⟩
    rw [he.1, gNum, h, if_pos rfl, bytes_str hb]
  | false =>
    refine (rGet_no (strOfNums l) at_ width w (by rw [strOfNums_size]; exact h)).mono fun e w' he => ⟨?_, he.2⟩
    rw [he.1, gNum, h]
    rfl

end Go.Proofs.Ytliclajcifeneaa.Hand
namespace Go.Proofs.Ytliclajcifeneaa.Hand
set_option linter.unusedVariables false
set_option linter.unusedSimpArgs false
open Go.RowKit Go.Proofs.YtliclajcifeneaaW.PrintWords
end Go.Proofs.Ytliclajcifeneaa.Hand
namespace Go.Proofs.Ytliclajcifeneaa.Hand
set_option linter.unusedVariables false
set_option linter.unusedSimpArgs false
open Go.ChangeShapes Go.WideShapes Go.ChangeAt Go.RowKit Go.Proofs.YtliclajcifeneaaW.PrintWords

theorem open_bytes {H : Type} {enc : TypeId × Value → H} {W : World} {held : Bool} {a : Option Addr} {len cap : Nat} {d : DataW H} {ps : List MemPlace}
    (h : DataW.Trod enc Try.prog W 0 (fun _ => true) held 46 (.slice a len cap) d ps) : ∃ l : List Int, len = l.length ∧ ReadsInt W .u8 a l.length l ∧ Bys l := by
  obtain ⟨fuel, hf⟩ := h
  rcases open_ints Try.underlying46 Try.underlying5 (by kernel_rfl) hf with ⟨hcs, _⟩ | ⟨x, l, c, zs, hcs, _, hl, hm, hz, _, hcell, hwz⟩
  · simp [Value.cells] at hcs
    obtain ⟨rfl, rfl, rfl⟩ := hcs
    exact ⟨[], rfl, ⟨rfl, by simp, fun h => absurd h (by simp)⟩, fun x hx => absurd hx (by simp)⟩
  · simp [Value.cells] at hcs
    obtain ⟨rfl, rfl, rfl⟩ := hcs
    have hz' : zs.length = cap := by simpa using hz
    have hlen : (zs.take len).length = len := by rw [List.length_take]; omega
    refine ⟨zs.take len, hlen.symm, ⟨rfl, by rw [hlen]; simp only [maxLen] at hm; omega, fun _ => ⟨x, rfl, fun j hj => ?_⟩⟩, fun n hn => ?_⟩
    · rw [hlen] at hj
      rw [hcell j (by omega)]
      congr 2
      rw [List.getD_eq_getElem?_getD, List.getD_eq_getElem?_getD, List.getElem?_take_of_lt hj]
    · have := hwz n (List.mem_of_mem_take hn)
      simp only [Lit.wf, IntKind.min, IntKind.max, IntKind.signed, IntKind.bits, Bool.and_eq_true] at this
      simp at this
      omega
end Go.Proofs.Ytliclajcifeneaa.Hand
namespace Go.Proofs.Ytliclajcifeneaa.Hand
set_option linter.unusedVariables false
set_option linter.unusedSimpArgs false
open Go.RowKit Go.Proofs.YtliclajcifeneaaW.PrintWords

theorem str_extract (l : List Int) (a b : Nat) : (strOfNums l).extract a b = strOfNums ((l.take b).drop a) := by
  apply ByteArray.ext
  rw [ByteArray.data_extract]
  apply Array.toList_inj.1
  simp [strOfNums, List.extract_eq_drop_take', List.map_take, List.map_drop]
theorem bel_step {a : Nat} {w w1 w2 : World} (h : Below a w w1) (h1 : Below w1.heap.size w1 w2) (ha : a ≤ w.heap.size := by exact Nat.le_refl _) : Below a w w2 := h.trans (h1.mono (Nat.le_trans ha h.size))
end Go.Proofs.Ytliclajcifeneaa.Hand
namespace Go.Proofs.Ytliclajcifeneaa.Hand
set_option linter.unusedVariables false
set_option linter.unusedSimpArgs false
open Go.RowKit Go.Proofs.YtliclajcifeneaaW.PrintWords

def packM (a b : Int) : Int := if 0 ≤ a ∧ a < 65536 ∧ 1 ≤ b ∧ b ≤ 65535 then a * 65536 + b else 0
theorem packM_yes {a b : Int} (h : 0 ≤ a ∧ a < 65536 ∧ 1 ≤ b ∧ b ≤ 65535) : packM a b = a * 65536 + b := if_pos h
theorem packM_no {a b : Int} (h : ¬ (0 ≤ a ∧ a < 65536 ∧ 1 ≤ b ∧ b ≤ 65535)) : packM a b = 0 := if_neg h
theorem pack_calls (a b : Int) (w : World) : Calls Try.prog 32 #[.agg #[.int .i64 a, .int .i64 b]] w fun e w' => e = .returned (.int .u64 (packM a b)) ∧ Below w.heap.size w w' := by
  by_cases h1 : 0 ≤ a
  · by_cases h2 : a < 65536
    · by_cases h3 : 1 ≤ b
      · by_cases h4 : b ≤ 65535
        · have HP := Aside0.mk (packM_yes ⟨h1, h2, h3, h4⟩)
          go_enter Try.func32, Try.ntmps32
          go_wp2
          go_ret
          exact ⟨by rw [HP.out]; first | rfl | exact congrArg (fun x => Ending.returned (Value.int .u64 x)) (by omega), below_alloc (Below.refl _ _) _⟩
        · go_enter Try.func32, Try.ntmps32
          go_wp2
          go_ret
          exact ⟨by rw [packM_no (by omega)]; rfl, below_alloc (Below.refl _ _) _⟩
      · go_enter Try.func32, Try.ntmps32
        go_wp2
        go_ret
        exact ⟨by rw [packM_no (by omega)]; rfl, below_alloc (Below.refl _ _) _⟩
    · go_enter Try.func32, Try.ntmps32
      go_wp2
      go_ret
      exact ⟨by rw [packM_no (by omega)]; rfl, below_alloc (Below.refl _ _) _⟩
  · go_enter Try.func32, Try.ntmps32
    go_wp2
    go_ret
    exact ⟨by rw [packM_no (by omega)]; rfl, below_alloc (Below.refl _ _) _⟩
theorem rPack_calls (a b : Int) (w : World) : Calls Try.prog 45 #[.agg #[.int .i64 a, .int .i64 b]] w fun e w' => e = .returned (.int .u64 (packM a b)) ∧ Below w.heap.size w w' := by
  by_cases h1 : 0 ≤ a
  · by_cases h2 : a < 65536
    · by_cases h3 : 1 ≤ b
      · by_cases h4 : b ≤ 65535
        · have HP := Aside0.mk (packM_yes ⟨h1, h2, h3, h4⟩)
          go_enter Try.func45, Try.ntmps45
          go_wp2
          go_ret
          exact ⟨by rw [HP.out]; first | rfl | exact congrArg (fun x => Ending.returned (Value.int .u64 x)) (by omega), below_alloc (Below.refl _ _) _⟩
        · go_enter Try.func45, Try.ntmps45
          go_wp2
          go_ret
          exact ⟨by rw [packM_no (by omega)]; rfl, below_alloc (Below.refl _ _) _⟩
      · go_enter Try.func45, Try.ntmps45
        go_wp2
        go_ret
        exact ⟨by rw [packM_no (by omega)]; rfl, below_alloc (Below.refl _ _) _⟩
    · go_enter Try.func45, Try.ntmps45
      go_wp2
      go_ret
      exact ⟨by rw [packM_no (by omega)]; rfl, below_alloc (Below.refl _ _) _⟩
  · go_enter Try.func45, Try.ntmps45
    go_wp2
    go_ret
    exact ⟨by rw [packM_no (by omega)]; rfl, below_alloc (Below.refl _ _) _⟩
def unpackM (n : Int) : Int × Int := if n < 4294967296 ∧ ¬ n % 65536 = 0 then (n / 65536, n % 65536) else (0, 0)
theorem unpack_calls (n : Int) (h0 : 0 ≤ n) (h1 : n < 18446744073709551616) (w : World) : Calls Try.prog 37 #[.int .u64 n] w fun e w' => e = .returned (.agg #[.int .i64 (unpackM n).1, .int .i64 (unpackM n).2]) ∧ Below w.heap.size w w' := by
  by_cases h2 : n < 4294967296
  · by_cases h3 : n % 65536 = 0
    · have HU := Aside0.mk (show unpackM n = (0, 0) from if_neg (by omega))
      have h3b : (n % 65536 == 0) = true := by simpa using h3
      clear h3
      go_enter Try.func37, Try.ntmps37
      go_wp2
      refine bodyPost_ret (results_cell_row rfl _ _ _ _ _ _ _ rfl (heap_alloc_new w _) Try.underlying29 rfl (by kernel_rfl)) rfl ?_
      rw [HU.out]
      exact ⟨rfl, below_alloc (Below.refl _ _) _⟩
    · have HU := Aside0.mk (show unpackM n = (n / 65536, n % 65536) from if_pos ⟨h2, h3⟩)
      have h3b : (n % 65536 == 0) = false := by simpa using h3
      clear h3
      go_enter Try.func37, Try.ntmps37
      go_wp2
      refine bodyPost_ret (results_cell_row rfl _ _ _ _ _ _ _ rfl (heap_alloc_new w _) Try.underlying29 rfl (by kernel_rfl)) rfl ?_
      rw [HU.out]
      exact ⟨rfl, below_alloc (Below.refl _ _) _⟩
  · have HU := Aside0.mk (show unpackM n = (0, 0) from if_neg (by omega))
    go_enter Try.func37, Try.ntmps37
    go_wp2
    refine bodyPost_ret (results_cell_row rfl _ _ _ _ _ _ _ rfl (heap_alloc_new w _) Try.underlying29 rfl (by kernel_rfl)) rfl ?_
    rw [HU.out]
    exact ⟨rfl, below_alloc (Below.refl _ _) _⟩
theorem rUnpack_calls (n : Int) (h0 : 0 ≤ n) (h1 : n < 18446744073709551616) (w : World) : Calls Try.prog 43 #[.int .u64 n] w fun e w' => e = .returned (.agg #[.int .i64 (unpackM n).1, .int .i64 (unpackM n).2]) ∧ Below w.heap.size w w' := by
  by_cases hn : n = 0
  · subst hn
    go_enter Try.func43, Try.ntmps43
    go_wp2
    refine bodyPost_ret (results_cell_row rfl _ _ _ _ _ _ _ rfl (old_blk (heap_alloc_new w _) _) Try.underlying29 rfl (by kernel_rfl)) rfl ?_
    exact ⟨rfl, below_alloc (below_alloc (Below.refl _ _) _) _⟩
  · have hnb : (n == 0) = false := by simpa using hn
    by_cases hp : packM (n / 65536 % 65536) (n % 65536) = n
    · have HU := Aside0.mk (show unpackM n = (n / 65536 % 65536, n % 65536) by
        unfold packM at hp
        split at hp
        · rename_i h2
          rw [unpackM, if_pos (by omega), show n / 65536 % 65536 = n / 65536 by omega]
        · omega)
      have HP := Aside0.mk hp
      clear hn hp
      go_enter Try.func43, Try.ntmps43
      go_wp2_with (go_at_call 45; (with_reducible refine (rPack_calls _ _ _).mono ?_); rw [HP.out]; rintro e w1 ⟨rfl, hb1⟩; have HB1 := Aside0.mk (bel_step (below_alloc (below_alloc (Below.refl _ _) _) _) hb1); have hv0 := (hb1.block w.heap.size (by simp; omega)).trans (old_blk (heap_alloc_new w _) _); have hv1 := (hb1.block (w.heap.size + 1) (by simp)).trans (alloc_two w _ _); have HV0 := Aside0.mk hv0; have x0 := blk_cell hv0 (i := 0) rfl; have x1 := blk_cell hv0 (i := 1) rfl; have xf0 := blk_free hv0 0; have xf1 := blk_free hv0 1; have y0 := blk_cell hv1 (i := 0) rfl; have y1 := blk_cell hv1 (i := 1) rfl; clear hv0 hv1 hb1)
      refine bodyPost_ret (results_cell_row rfl _ _ _ _ _ _ _ rfl (blk_set (blk_set HV0.out 0 _) 1 _) Try.underlying29 rfl (by kernel_rfl)) rfl ?_
      rw [HU.out]
      exact ⟨rfl, (HB1.out.setCell (p := ⟨w.heap.size, 0, none⟩) (Nat.le_refl _) _).setCell (p := ⟨w.heap.size, 1, none⟩) (Nat.le_refl _) _⟩
    · have HU := Aside0.mk (show unpackM n = (0, 0) by
        unfold packM at hp
        rw [unpackM, if_neg]
        intro h
        rw [if_pos (by omega)] at hp
        omega)
      obtain ⟨q, hq⟩ : ∃ q, q = packM (n / 65536 % 65536) (n % 65536) := ⟨_, rfl⟩
      have hqn : (q == n) = false := by simpa [hq] using hp
      have HP := Aside0.mk hq.symm
      clear hn hp hq
      go_enter Try.func43, Try.ntmps43
      go_wp2_with (go_at_call 45; (with_reducible refine (rPack_calls _ _ _).mono ?_); rw [HP.out]; rintro e w1 ⟨rfl, hb1⟩; have HB1 := Aside0.mk (bel_step (below_alloc (below_alloc (Below.refl _ _) _) _) hb1); have hv0 := (hb1.block w.heap.size (by simp; omega)).trans (old_blk (heap_alloc_new w _) _); have hv1 := (hb1.block (w.heap.size + 1) (by simp)).trans (alloc_two w _ _); have HV0 := Aside0.mk hv0; have x0 := blk_cell hv0 (i := 0) rfl; have x1 := blk_cell hv0 (i := 1) rfl; have xf0 := blk_free hv0 0; have xf1 := blk_free hv0 1; have y0 := blk_cell hv1 (i := 0) rfl; have y1 := blk_cell hv1 (i := 1) rfl; clear hv0 hv1 hb1)
      refine bodyPost_ret (results_cell_row rfl _ _ _ _ _ _ _ rfl (blk_set (blk_set HV0.out 0 _) 1 _) Try.underlying29 rfl (by kernel_rfl)) rfl ?_
      rw [HU.out]
      exact ⟨rfl, (HB1.out.setCell (p := ⟨w.heap.size, 0, none⟩) (Nat.le_refl _) _).setCell (p := ⟨w.heap.size, 1, none⟩) (Nat.le_refl _) _⟩
end Go.Proofs.Ytliclajcifeneaa.Hand
namespace Go.Proofs.Ytliclajcifeneaa.Hand
set_option linter.unusedVariables false
set_option linter.unusedSimpArgs false
open Go.RowKit Go.Maps Go.Proofs.YtliclajcifeneaaW.PrintWords

/-- An element is read as itself. -/
def heldR (v : Value) : Option (DataW Value × List MemPlace) := some (.held v, [])
/-- What a datum says of each key. -/
def Fits (D : DataW Value) (f : Lit → Option Value) : Prop := ∀ kl, has D kl = (f kl).isSome ∧ ∀ v, f kl = some v → ∀ z, D.atKey kl z = .held v
/-- The block holds a map of these entries. -/
def MapF (P : Program) (k : TypeId) (w : World) (b : Nat) (f : Lit → Option Value) : Prop := ∃ D, w.ownsMap P k heldR b (Maps.size D) D ∧ Fits D f
def updF (f : Lit → Option Value) (kl : Lit) (v : Value) : Lit → Option Value := fun x => if x.sameKey kl then some v else f x
def delF (f : Lit → Option Value) (kl : Lit) : Lit → Option Value := fun x => if x.sameKey kl then none else f x
/-- So many keys at most. -/
def RoomF (f : Lit → Option Value) (n : Nat) : Prop := ∃ L : List Lit, L.length ≤ n ∧ ∀ kl, (f kl).isSome = true → kl ∈ L

theorem nodup_len {α : Type} (xs : List α) : ∀ L : List α, xs.Nodup → (∀ x ∈ xs, x ∈ L) → xs.length ≤ L.length := by
  classical
  induction xs with
  | nil => exact fun _ _ _ => Nat.zero_le _
  | cons x xs ih =>
    intro L hn hs
    have hx := hs x (List.mem_cons_self ..)
    obtain ⟨h1, h2⟩ := List.nodup_cons.1 hn
    have := ih (L.erase x) h2 (fun y hy => (List.mem_erase_of_ne (fun e => h1 (by rw [← e]; exact hy))).2 (hs y (List.mem_cons_of_mem _ hy)))
    rw [List.length_erase_of_mem hx] at this
    have hl := List.length_pos_of_mem hx
    simp only [List.length_cons]
    omega
section
variable {P : Program} {k : TypeId} {w w1 : World} {b : Nat} {f : Lit → Option Value}
theorem size_le_of_room (hk : Keyed P k) {D : DataW Value} {n m : Nat} (h : w.ownsMap P k heldR b n D) (hf : Fits D f) (hr : RoomF f m) : Maps.size D ≤ m := by
  obtain ⟨es, rfl, hp, hkey⟩ := h.entries hk
  obtain ⟨L, hL, hin⟩ := hr
  have hnd : (es.map (·.1)).Nodup := List.pairwise_map.2 hp
  have := nodup_len (es.map (·.1)) L hnd (fun x hx => by
    obtain ⟨p, hp1, rfl⟩ := List.mem_map.1 hx
    refine hin _ ?_
    rw [← (hf p.1).1, has_eq, List.any_eq_true]
    exact ⟨p, hp1, WideAt.sameKey_self (hkey p hp1)⟩)
  rw [List.length_map] at this
  exact Nat.le_trans this hL
theorem MapF.of_own {D : DataW Value} {n : Nat} (h : w.ownsMap P k heldR b n D) (hf : Fits D f) : MapF P k w b f := by
  refine ⟨D, ?_, hf⟩
  obtain ⟨es, clock, hb, F, hs, hD⟩ := h
  refine ⟨es, clock, hb, F, ?_, hD⟩
  rw [hD]
  simp [Maps.size, length_sorted]
theorem MapF.made (w : World) : MapF P k (w.alloc (.map #[] 0)) w.heap.size (fun _ => none) :=
  MapF.of_own (World.ownsMap_made w P k heldR) (fun kl => ⟨rfl, fun v h => by cases h⟩)
theorem MapF.lt (h : MapF P k w b f) : b < w.heap.size := by obtain ⟨D, h, _⟩ := h; exact h.lt
theorem MapF.kept {row : Option Nat} (h : MapF P k w b f) (hg : w.grownBy w1 row) (hne : some b ≠ row) : MapF P k w1 b f := by
  obtain ⟨D, h, hf⟩ := h
  exact ⟨D, h.kept hg hne, hf⟩
theorem MapF.same (h : MapF P k w b f) (hb : w1.heap[b]? = w.heap[b]?) : MapF P k w1 b f := by
  obtain ⟨D, ⟨es, clock, h1, h2⟩, hf⟩ := h
  exact ⟨D, ⟨es, clock, hb.trans h1, h2⟩, hf⟩
theorem MapF.fr {S : Nat → Prop} (h : MapF P k w b f) (hf : Fr S w w1) (hb : ¬ S b) : MapF P k w1 b f := h.same (hf.block b h.lt hb)
theorem MapF.below (h : MapF P k w b f) (hb : Below w.heap.size w w1) : MapF P k w1 b f := h.same (hb.block b h.lt)
theorem MapF.blk (h : MapF P k w b f) : ∃ es clock, w.heap[b]? = some (.map es clock) := by
  obtain ⟨D, ⟨es, clock, h1, _⟩, _⟩ := h
  exact ⟨es, clock, h1⟩
/-- A block of cells is no map's. -/
theorem MapF.ne_cells (h : MapF P k w b f) {p : Nat} {cs : Array Value} {t : TypeId} {fr : Nat × Nat} (hp : w.heap[p]? = some (.cells cs t fr)) : p ≠ b := by
  obtain ⟨es, clock, h1⟩ := h.blk
  intro e
  rw [e, h1] at hp
  cases hp
theorem Fits.isMap {D : DataW Value} {n : Nat} (h : w.ownsMap P k heldR b n D) : IsMap D := h.isMap
theorem Fits.put {D : DataW Value} (hD : IsMap D) (hf : Fits D f) {kl : Lit} (hk : WideAt.IsKeyLit kl) (v : Value) : Fits (D.put kl (.held v)) (updF f kl v) := by
  intro x
  by_cases hx : x = kl
  · subst hx
    simp only [updF, WideAt.sameKey_self hk, if_true]
    exact ⟨has_put_same hD hk _, fun u hu z => by injection hu with hu; subst hu; exact atKey_put_same hD hk _ _⟩
  · simp only [updF, sameKey_ne hx, if_false, Bool.false_eq_true]
    exact ⟨(has_put_other hx _).trans (hf x).1, fun u hu z => (atKey_put_other hx _ _).trans ((hf x).2 u hu z)⟩
theorem Fits.del {D : DataW Value} (hf : Fits D f) {kl : Lit} (hk : WideAt.IsKeyLit kl) : Fits (D.del kl) (delF f kl) := by
  intro x
  by_cases hx : x = kl
  · subst hx
    simp only [delF, WideAt.sameKey_self hk, if_true]
    exact ⟨has_del_same, fun u hu => by cases hu⟩
  · simp only [delF, sameKey_ne hx, if_false, Bool.false_eq_true]
    exact ⟨(has_del_other hx).trans (hf x).1, fun u hu z => (atKey_del_other hx _).trans ((hf x).2 u hu z)⟩
theorem Fits.congr {D : DataW Value} {g : Lit → Option Value} (hf : Fits D f) (h : ∀ kl, f kl = g kl) : Fits D g := fun kl => by rw [← h kl]; exact hf kl
theorem MapF.congr {g : Lit → Option Value} (hf : MapF P k w b f) (h : ∀ kl, f kl = g kl) : MapF P k w b g := by
  obtain ⟨D, h1, h2⟩ := hf
  exact ⟨D, h1, h2.congr h⟩
/-- What a look-up gives. -/
theorem MapF.look {t e : TypeId} (h : MapF P k w b f) (K : Keyed P k) (ht : P.underlying t = some (.map k e)) {z : Value} (hz : (zeroValue e).run P w = .ok z w) {key : Value} {kl : Lit} (hkey : keyOf P k key = some kl) :
    (Instr.lookup t (.map (some b)) key true).run P w = .ok (.tuple #[(f kl).getD z, .bool (f kl).isSome]) w := by
  obtain ⟨D, h, hf⟩ := h
  obtain ⟨v, ps, hrun, hv⟩ := h.look_ok K ht hz (zd := .held z) (zp := []) rfl hkey
  simp only [heldR, Option.some.injEq, Prod.mk.injEq] at hv
  rw [hrun, (hf kl).1]
  cases hx : f kl with
  | some u =>
    rw [(hf kl).2 u hx] at hv
    obtain ⟨hv, _⟩ := hv
    injection hv with hv
    rw [hv]
    rfl
  | none =>
    have hh : has D kl = false := by rw [(hf kl).1, hx]; rfl
    rw [atKey_of_not_has hh] at hv
    obtain ⟨hv, _⟩ := hv
    injection hv with hv
    rw [hv]
    rfl
theorem MapF.look1 {t e : TypeId} (h : MapF P k w b f) (K : Keyed P k) (ht : P.underlying t = some (.map k e)) {z : Value} (hz : (zeroValue e).run P w = .ok z w) {key : Value} {kl : Lit} (hkey : keyOf P k key = some kl) :
    (Instr.lookup t (.map (some b)) key false).run P w = .ok ((f kl).getD z) w := by
  obtain ⟨D, h, hf⟩ := h
  obtain ⟨v, ps, hrun, hv⟩ := h.lookup K ht hz (zd := .held z) (zp := []) rfl hkey
  simp only [heldR, Option.some.injEq, Prod.mk.injEq] at hv
  rw [hrun]
  cases hx : f kl with
  | some u =>
    rw [(hf kl).2 u hx] at hv
    obtain ⟨hv, _⟩ := hv
    injection hv with hv
    rw [hv]
    rfl
  | none =>
    have hh : has D kl = false := by rw [(hf kl).1, hx]; rfl
    rw [atKey_of_not_has hh] at hv
    obtain ⟨hv, _⟩ := hv
    injection hv with hv
    rw [hv]
    rfl
theorem MapF.upd {t e : TypeId} (h : MapF P k w b f) (K : Keyed P k) (ht : P.underlying t = some (.map k e)) {n : Nat} (hr : RoomF f n) (hn : n < maxLen) {key val : Value} {kl : Lit} (hkey : keyOf P k key = some kl) :
    ∃ w', (Instr.mapUpdate t (.map (some b)) key val).run P w = .ok () w' ∧ MapF P k w' b (updF f kl val) ∧ w.mapTurned w' b := by
  obtain ⟨D, h, hf⟩ := h
  obtain ⟨w', h1, h2, h3⟩ := h.store K ht (Nat.lt_of_le_of_lt (size_le_of_room K h hf hr) hn) (d := .held val) (ps := []) hkey rfl
  exact ⟨w', h1, MapF.of_own h2 (hf.put h.isMap (K.key hkey) val), h3⟩
theorem MapF.drop {t e : TypeId} (h : MapF P k w b f) (K : Keyed P k) (ht : P.underlying t = some (.map k e)) {key : Value} {kl : Lit} (hkey : keyOf P k key = some kl) (ty : TypeId) :
    ∃ w', (Builtin.delete_ #[t, k] ty #[.map (some b), key]).run P w = .ok (.tuple #[]) w' ∧ MapF P k w' b (delF f kl) ∧ w.mapTurned w' b := by
  obtain ⟨D, h, hf⟩ := h
  obtain ⟨w', h1, h2, h3⟩ := h.drop K ht hkey ty
  exact ⟨w', h1, MapF.of_own h2 (hf.del (K.key hkey)), h3⟩
theorem _root_.Go.World.mapTurned.fr {S : Nat → Prop} (h : w.mapTurned w1 b) (hS : S b) : Fr S w w1 := by
  have hg := h.grown
  exact ⟨hg.os, hg.tape, hg.output, hg.size, fun i hi hn => hg.block i hi (fun e => hn (by injection e with e; rw [e]; exact hS))⟩
end
section
variable {P : Program} {w : World} {ops : Array Oper} {rest : List Oper} {o : Oper} {a : Act} {Q : Exit → Act → World → Prop} {k e : TypeId} {b : Nat} {f : Lit → Option Value}
/-- 'v, ok := m[k]'. -/
theorem wpList_look (hg : o.guard = none) (m x : Operand) (t : TypeId) (hop : o.op = Op.lookup t m x true) (K : Keyed P k) (ht : P.underlying t = some (.map k e)) {z : Value} (hz : (zeroValue e).run P w = .ok z w)
    (hm : a.eval m = .map (some b)) (hown : MapF P k w b f) (key : Value) (kl : Lit) (hx : a.eval x = key) (hkey : keyOf P k key = some kl) (r : Option Value) (hr : f kl = r)
    (hK : wpList P ops Q rest (a.put o.dst (.tuple #[r.getD z, .bool r.isSome])) w) : wpList P ops Q (o :: rest) a w := by
  subst hr
  refine wpList_plain hg fun K' hK' => ?_
  have hrun := hown.look K ht hz hkey
  unfold Oper.wp
  simp [execOp, hop, hm, hx, hrun, Result.andThen]
  exact hK' _ _ hK
/-- 'm[k]'. -/
theorem wpList_look1 (hg : o.guard = none) (m x : Operand) (t : TypeId) (hop : o.op = Op.lookup t m x false) (K : Keyed P k) (ht : P.underlying t = some (.map k e)) {z : Value} (hz : (zeroValue e).run P w = .ok z w)
    (hm : a.eval m = .map (some b)) (hown : MapF P k w b f) (key : Value) (kl : Lit) (hx : a.eval x = key) (hkey : keyOf P k key = some kl) (r : Option Value) (hr : f kl = r)
    (hK : wpList P ops Q rest (a.put o.dst (r.getD z)) w) : wpList P ops Q (o :: rest) a w := by
  subst hr
  refine wpList_plain hg fun K' hK' => ?_
  have hrun := hown.look1 K ht hz hkey
  unfold Oper.wp
  simp [execOp, hop, hm, hx, hrun, Result.andThen]
  exact hK' _ _ hK
/-- 'delete(m, k)'. -/
theorem wpList_del (hg : o.guard = none) (m x : Operand) (t : TypeId) (hop : o.op = Op.call { callee := Callee.builtin Builtin.delete, args := #[m, x], argTypes := #[t, k] }) (K : Keyed P k) (ht : P.underlying t = some (.map k e))
    (hm : a.eval m = .map (some b)) (hown : MapF P k w b f) (key : Value) (kl : Lit) (hx : a.eval x = key) (hkey : keyOf P k key = some kl)
    (hK : ∀ w', MapF P k w' b (delF f kl) → w.mapTurned w' b → wpList P ops Q rest (a.put o.dst (.tuple #[])) w') : wpList P ops Q (o :: rest) a w := by
  refine wpList_plain hg fun K' hK' => ?_
  obtain ⟨w', hrun, h1, h2⟩ := hown.drop K ht hkey o.type
  unfold Oper.wp
  simp [execOp, hop, resolve, invoke, builtin, hm, hx, hrun, Result.andThen]
  exact hK' _ _ (hK w' h1 h2)
end
end Go.Proofs.Ytliclajcifeneaa.Hand
namespace Go.Proofs.Ytliclajcifeneaa.Hand
set_option linter.unusedVariables false
set_option linter.unusedSimpArgs false
open Go.RowKit Go.Proofs.YtliclajcifeneaaW.PrintWords

section
variable {α : Type} {encA : α → List Value} {sz : Nat} {hl : ∀ x, (encA x).length = sz} {h1 : ∀ x, ∀ u ∈ encA x, u.oneCell' = true}
theorem rows_of {w : World} {a : Addr} {k : Nat} {Wf : α → Prop} (hx : ∀ i, i < k → ∃ x : α, Wf x ∧ ∀ j, j < sz → w.cell? (a.add (i * sz + j)) = (encA x)[j]?) :
    ∃ L : List α, L.length = k ∧ ∀ i x, L[i]? = some x → Wf x ∧ ∀ j, j < sz → w.cell? (a.add (i * sz + j)) = (encA x)[j]? := by
  induction k with
  | zero => exact ⟨[], rfl, fun i x h => by simp at h⟩
  | succ k ih =>
    obtain ⟨L, hL, h⟩ := ih (fun i hi => hx i (by omega))
    obtain ⟨x, hw, hc⟩ := hx k (by omega)
    refine ⟨L ++ [x], by simp [hL], fun i y hy => ?_⟩
    by_cases hi : i < L.length
    · rw [List.getElem?_append_left hi] at hy
      exact h i y hy
    · have hik : i = L.length := by
        have := (List.getElem?_eq_some_iff.1 hy).1
        simp at this
        omega
      subst hik
      rw [List.getElem?_append_right (Nat.le_refl _)] at hy
      simp at hy
      subst hy
      rw [hL]
      exact ⟨hw, hc⟩
theorem add_add (a : Addr) (i j : Nat) : (a.add i).add j = a.add (i + j) := by
  unfold Addr.add
  split <;> split <;> simp_all <;> (try omega)
end
end Go.Proofs.Ytliclajcifeneaa.Hand
namespace Go.Proofs.Ytliclajcifeneaa.Hand
set_option linter.unusedVariables false
set_option linter.unusedSimpArgs false
open Go.RowKit Go.Proofs.YtliclajcifeneaaW.PrintWords

theorem take_rdx {l : List Int} {k : Nat} (h : k < l.length) : l.take (k + 1) = l.take k ++ [rd l k] := by
  rw [List.take_add_one]
  congr 1
  rw [rd]
  simp [h]
theorem eq_calls (A B : Option Addr) (c d : Nat) (l m : List Int) (w : World) (hA : ReadsInt w .u8 A l.length l) (hB : ReadsInt w .u8 B m.length m) :
    Calls Try.prog 41 #[.slice A l.length c, .slice B m.length d] w fun e w' => e = .returned (.bool (decide (l = m))) ∧ Below w.heap.size w w' := by
  have HA := Aside0.mk hA
  have HB := Aside0.mk hB
  clear hA hB
  by_cases hlm : l.length = m.length
  · have hl : l.length ≤ 9223372036854775807 := HA.out.2.1
    go_enter Try.func41, Try.ntmps41
    go_wp2
    go_loopw [13] (fun i wr => ∃ k : Nat, k ≤ l.length ∧ i = .int .i64 k ∧ Aside0 (l.take k = m.take k) ∧ Aside0 (Below w.heap.size w wr)) (fun i _ => (l.length - intOf i).toNat)
    case atStart => exact ⟨0, Nat.zero_le _, rfl, ⟨rfl⟩, ⟨Below.refl _ _⟩⟩
    case round =>
      obtain ⟨k, hk, rfl, HT, HW⟩ := hrel
      by_cases hlt : k < l.length
      · obtain ⟨ad, rfl, hx⟩ := HA.out.2.2 (by omega)
        obtain ⟨bd, rfl, hy⟩ := HB.out.2.2 (by omega)
        have hx1 : wr.cell? (ad.add k) = some (.int .u8 (rd l k)) := (HW.out.cell (World.block_lt_of_cell? w _ (hx k hlt))).trans (hx k hlt)
        have hy1 : wr.cell? (bd.add k) = some (.int .u8 (rd m k)) := (HW.out.cell (World.block_lt_of_cell? w _ (hy k (by omega)))).trans (hy k (by omega))
        clear hx hy
        have HL := Aside0.mk (take_rdx (l := l) (k := k) hlt)
        have HM := Aside0.mk (take_rdx (l := m) (k := k) (by omega))
        by_cases he : rd l k = rd m k
        · go_wp2
          go_quiet (fail)
          go_wp2
          go_roundw
          case rel => exact ⟨k + 1, by omega, by go_num, ⟨by rw [HL.out, HM.out, HT.out, he]⟩, ⟨pw_below_drewN HW.out _⟩⟩
          case measure => simp [intOf]; omega
        · go_wp2
          go_quiet (fail)
          go_wp2
          go_ret
          refine ⟨congrArg (fun b => Ending.returned (.bool b)) ?_, pw_below_drewN HW.out _⟩
          rw [decide_eq_false (fun h => he (by rw [h]))]
      · obtain rfl : k = l.length := by omega
        go_wp2
        go_ret
        refine ⟨congrArg (fun b => Ending.returned (.bool b)) ?_, HW.out⟩
        have h1 := HT.out
        rw [List.take_of_length_le (Nat.le_refl _), List.take_of_length_le (by omega)] at h1
        rw [decide_eq_true h1]
  · go_enter Try.func41, Try.ntmps41
    go_wp2
    go_ret
    refine ⟨congrArg (fun b => Ending.returned (.bool b)) ?_, Below.refl _ _⟩
    rw [decide_eq_false (fun h => hlm (by rw [h]))]
end Go.Proofs.Ytliclajcifeneaa.Hand
namespace Go.Proofs.Ytliclajcifeneaa.Hand
set_option linter.unusedVariables false
set_option linter.unusedSimpArgs false
open Go.ChangeShapes Go.WideShapes Go.ChangeAt Go.RowKit Go.Proofs.YtliclajcifeneaaW.PrintWords
theorem open_cap {H : Type} {enc : TypeId × Value → H} {W : World} {held : Bool} {a : Option Addr} {len cap : Nat} {d : DataW H} {ps : List MemPlace}
    (h : DataW.Trod enc Try.prog W 0 (fun _ => true) held 46 (.slice a len cap) d ps) : len ≤ cap := by
  obtain ⟨fuel, hf⟩ := h
  rcases open_ints Try.underlying46 Try.underlying5 (by kernel_rfl) hf with ⟨hcs, _⟩ | ⟨x, l, c, zs, hcs, _, hl, hm, hz, _, hcell, hwz⟩
  · simp [Value.cells] at hcs
    omega
  · simp [Value.cells] at hcs
    omega
end Go.Proofs.Ytliclajcifeneaa.Hand
