/- What a claim needs of the walks and contracts, part 1. -/
import Derived.Test.YtgendnoafemgpaaProg
import Derived.WalkKit
import Derived.Below
import Derived.OwnWalk
import Derived.BigQuiet
import Derived.BigFrame
import Derived.KernelRfl
import Derived.LoopTactic
import Derived.Lib.Hide
import Derived.Outline
import Derived.Test.YtgendnoafemgpaaWWords
import Derived.Deep.Draws
import Derived.OneCell
import Derived.WalkSpells
import Derived.IntWalk
import Derived.Laws.CopyOwn
import Derived.Laws.ResultCell
import Derived.Laws.Rows
import Derived.Maps.OwnSet
import Derived.Maps.OwnOps
import Derived.Maps.RangeWalk
import Derived.Maps.Ext
import Derived.Handy
import Derived.Lib.ConvBytes
import Derived.Laws.BitsAllLaws
import Derived.Lib.Bytes
import Derived.Deep.RegionHeld3
import Derived.RangeFuncNested
import Derived.RangeFuncBound
import Derived.RangeFuncCalls
import Derived.RangeFuncLeaves
import Derived.RangeFuncWrites
import Derived.RangeFuncBox
import Derived.Shelf.Abstract
import Derived.Shelf.RegionOpen
import Derived.OwnWalkIn
import Derived.TacticsInMore
import Derived.LoopNIn
import Derived.LoopIn
import Derived.Maps.AppendAt
import Derived.Test.YtgendnoafemgpaaHandShelfB
import Derived.Test.YtgendnoafemgpaaWLast
import Derived.OrdersIn
import Derived.Test.YtgendnoafemgpaaWMore
namespace Go.Proofs.Ytgendnoafemgpaa.Hand
open Go.RowKit Go.Proofs.YtgendnoafemgpaaW.PrintWords

def rightB (a : Int) : Bool := a == 1 || (a == 2 || (a == 4 || a == 8))
theorem right_calls (a : Int) (w : World) : Calls Try.prog 54 #[.int .i64 a] w fun e w' => e = .returned (.bool (rightB a)) ∧ w = w' := by
  by_cases h1 : a = 1
  · go_enter Try.func54, Try.ntmps54
    go_wp2
    go_ret
    exact ⟨by simp [rightB, h1], rfl⟩
  · by_cases h2 : a = 2
    · go_enter Try.func54, Try.ntmps54
      go_wp2
      go_ret
      exact ⟨by simp [rightB, h2], rfl⟩
    · by_cases h3 : a = 4
      · go_enter Try.func54, Try.ntmps54
        go_wp2
        go_ret
        exact ⟨by simp [rightB, h3], rfl⟩
      · go_enter Try.func54, Try.ntmps54
        go_wp2
        go_ret
        exact ⟨by rw [rightB, beq_false_of_ne h1, beq_false_of_ne h2, beq_false_of_ne h3]; rfl, rfl⟩

def insideB (at_ width : Int) (n : Nat) : Bool := decide (0 ≤ at_) && (decide (at_ ≤ n) && decide (width ≤ n - at_))
theorem inside_calls (w : World) (pa pb pw : Nat) (at_ width : Int) (a : Option Addr) (n c : Nat)
    (hm : n ≤ 9223372036854775807) (ha : w.cell? ⟨pa,0,none⟩ = some (.int .i64 at_)) (hb : w.cell? ⟨pb,0,none⟩ = some (.slice a n c)) (hw : w.cell? ⟨pw,0,none⟩ = some (.int .i64 width)) :
    Calls Try.prog 53 #[.pointer (some ⟨pa,0,none⟩), .pointer (some ⟨pb,0,none⟩), .pointer (some ⟨pw,0,none⟩)] w fun e w' => e = .returned (.bool (insideB at_ width n)) ∧ w = w' := by
  by_cases c1 : 0 ≤ at_
  · by_cases c2 : at_ ≤ (n : Int)
    · go_enter Try.func53, Try.ntmps53
      go_wp2
      go_ret
      exact ⟨by rw [insideB, decide_eq_true c1, decide_eq_true c2]; rfl, rfl⟩
    · go_enter Try.func53, Try.ntmps53
      go_wp2
      go_ret
      exact ⟨by rw [insideB, decide_eq_false (Int.not_le.2 c2), Bool.false_and, Bool.and_false]; rfl, rfl⟩
  · go_enter Try.func53, Try.ntmps53
    go_wp2
    go_ret
    exact ⟨by rw [insideB, decide_eq_false (Int.not_le.2 c1), Bool.false_and]; rfl, rfl⟩

/-- The number in the first k bytes from at_ on, as the loop reckons it. -/
def getN (l : List Int) (at_ : Int) : Nat → Int
  | 0 => 0
  | k + 1 => bits .or .u64 (getN l at_ k) (IntKind.u64.wrap (IntKind.u64.wrap (rd l (at_ + k)) * 2 ^ (8 * k)))
theorem get_no (l : List Int) (A : Option Addr) (c : Nat) (at_ width : Int) (w : World) (hl : l.length ≤ 9223372036854775807)
    (h : (rightB width && insideB at_ width l.length) = false) :
    Calls Try.prog 41 #[.slice A l.length c, .int .i64 at_, .int .i64 width] w fun e w' => e = .returned (.tuple #[.int .u64 0, .bool false]) ∧ Below w.heap.size w w' := by
  cases hr : rightB width with
  | false =>
    go_enter Try.func41, Try.ntmps41
    go_wp2_with (go_at_call 54; refine (right_calls _ _).mono ?_; rintro e w' ⟨rfl, rfl⟩)
    go_ret2
    exact ⟨rfl, below_alloc (below_alloc (below_alloc (Below.refl _ _) _) _) _⟩
  | true =>
    have hi : insideB at_ width l.length = false := by simpa [hr] using h
    clear h
    go_enter Try.func41, Try.ntmps41
    go_wp2_with (first | (go_at_call 54; refine (right_calls _ _).mono ?_; rintro e w' ⟨rfl, rfl⟩) | (go_at_call 53; refine (inside_calls _ _ _ _ at_ width A l.length c hl (by go_simp) (by go_simp) (by go_simp)).mono ?_; rintro e w' ⟨rfl, rfl⟩))
    go_ret2
    exact ⟨rfl, below_alloc (below_alloc (below_alloc (Below.refl _ _) _) _) _⟩

theorem get_yes (l : List Int) (A : Option Addr) (c : Nat) (at_ width : Int) (w : World) (hx : ReadsInt w .u8 A l.length l)
    (h : (rightB width && insideB at_ width l.length) = true) :
    Calls Try.prog 41 #[.slice A l.length c, .int .i64 at_, .int .i64 width] w fun e w' => e = .returned (.tuple #[.int .u64 (getN l at_ width.toNat), .bool true]) ∧ Below w.heap.size w w' := by
  have hl := hx.2.1
  obtain ⟨hr, hi⟩ : rightB width = true ∧ insideB at_ width l.length = true := by simpa using h
  clear h
  go_enter Try.func41, Try.ntmps41
  go_wp2_with (first | (go_at_call 54; refine (right_calls _ _).mono ?_; rintro e w' ⟨rfl, rfl⟩) | (go_at_call 53; refine (inside_calls _ _ _ _ at_ width A l.length c hl (by go_simp) (by go_simp) (by go_simp)).mono ?_; rintro e w' ⟨rfl, rfl⟩))
  have hw : 0 < width ∧ width ≤ 8 := by
    have := hr
    simp only [rightB, Bool.or_eq_true, beq_iff_eq] at this
    omega
  have hii : 0 ≤ at_ ∧ at_ ≤ l.length ∧ width ≤ l.length - at_ := by
    have := hi
    simp only [insideB, Bool.and_eq_true, decide_eq_true_eq] at this
    exact this
  obtain ⟨hw0, hw8⟩ := hw
  obtain ⟨hi0, hi1, hi2⟩ := hii
  clear hr hi
  go_loop [9, 21] (fun n i => ∃ k : Nat, k ≤ width.toNat ∧ i = .int .i64 k ∧ n = .int .u64 (getN l at_ k)) (fun _ i => width.toNat - (intOf i).toNat)
  case atStart => exact ⟨0, Nat.zero_le _, rfl, rfl⟩
  case round =>
    obtain ⟨k, hk, rfl, rfl⟩ := hrel
    by_cases hlt : (k : Int) < width
    · obtain ⟨ad, rfl, hc⟩ := hx.at_ (at_ + k) (by omega) (by omega)
      have hc3 := pw_cell_below (below_alloc (below_alloc (below_alloc (Below.refl w.heap.size w) (.cells #[.slice (some ad) l.length c] 49)) (.cells #[.int .i64 at_] 3)) (.cells #[.int .i64 width] 3)) hc
      clear hc
      have hsum : IntKind.i64.wrap (at_ + k) = at_ + k := IntWalk.i64_in _ (by omega)
      go_wp2
      go_round
      case rel => exact ⟨k + 1, by omega, by go_num, rfl⟩
      case measure => simp [intOf]; omega
    · have hk2 : k = width.toNat := by omega
      go_wp2
      go_ret2
      exact ⟨rfl, below_alloc (below_alloc (below_alloc (Below.refl _ _) _) _) _⟩

end Go.Proofs.Ytgendnoafemgpaa.Hand
namespace Go.Proofs.Ytgendnoafemgpaa.Hand
open Go.RowKit

/-- Outside the blocks of S all that lay in w lies in w' as it was. -/
structure Fr (S : Nat → Prop) (w w' : World) : Prop where
  os : w'.os = w.os
  tape : w'.tape = w.tape
  output : w'.output = w.output
  size : w.heap.size ≤ w'.heap.size
  block : ∀ k, k < w.heap.size → ¬ S k → w'.heap[k]? = w.heap[k]?

section
variable {S T : Nat → Prop} {w w1 w2 : World}
theorem Fr.refl (S : Nat → Prop) (w : World) : Fr S w w := ⟨rfl, rfl, rfl, Nat.le_refl _, fun _ _ _ => rfl⟩
theorem Fr.trans (h : Fr S w w1) (k : Fr T w1 w2) (hs : ∀ b, T b → b < w.heap.size → S b) : Fr S w w2 :=
  ⟨k.os.trans h.os, k.tape.trans h.tape, k.output.trans h.output, Nat.le_trans h.size k.size, fun b hb hn => (k.block b (Nat.lt_of_lt_of_le hb h.size) (fun ht => hn (hs b ht hb))).trans (h.block b hb hn)⟩
theorem Fr.trans' (h : Fr S w w1) (k : Fr S w1 w2) : Fr S w w2 := h.trans k (fun _ hb _ => hb)
theorem Fr.mono (h : Fr S w w1) (hs : ∀ b, S b → T b) : Fr T w w1 := ⟨h.os, h.tape, h.output, h.size, fun b hb hn => h.block b hb (fun hs' => hn (hs b hs'))⟩
theorem Fr.of_below (h : Below w.heap.size w w1) (S : Nat → Prop) : Fr S w w1 := ⟨h.os, h.tape, h.output, h.size, fun b hb _ => h.block b hb⟩
theorem Fr.below (h : Fr S w w1) (B : Nat) (hB : B ≤ w.heap.size) (hS : ∀ b, S b → B ≤ b) : Below B w w1 := ⟨h.os, h.tape, h.output, h.size, fun b hb => h.block b (Nat.lt_of_lt_of_le hb hB) (fun hs => by have := hS b hs; omega)⟩
theorem Fr.alloc (h : Fr S w w1) (o : Obj) : Fr S w (w1.alloc o) := h.trans (Fr.of_below ((Below.refl _ w1).alloc (Nat.le_refl _) o) (fun _ => False)) (fun _ hf _ => hf.elim)
theorem Fr.drew (h : Fr S w w1) : Fr S w w1.drew := ⟨h.os, h.tape, h.output, h.size, h.block⟩
theorem Fr.drewN (h : Fr S w w1) (n : Nat) : Fr S w (w1.drewN n) := ⟨h.os, h.tape, h.output, h.size, h.block⟩
theorem Fr.setCell (h : Fr S w w1) {p : Addr} (hp : S p.block ∨ w.heap.size ≤ p.block) (u : Value) : Fr S w (w1.setCell p u) :=
  h.trans (T := fun b => b = p.block) ⟨rfl, rfl, rfl, by simp [World.setCell], fun b _ hn => Below.heap_setCell _ _ _ _ hn⟩ (fun b hb hl => by subst hb; rcases hp with hp | hp; exact hp; omega)
theorem Fr.get (h : Fr S w w1) {b : Nat} {o : Obj} (hb : w.heap[b]? = some o) (hn : ¬ S b) : w1.heap[b]? = some o := (h.block b (Array.getElem?_eq_some_iff.1 hb).1 hn).trans hb
theorem Fr.grown {row : Option Nat} (h : Fr S w w1) (hg : w1.grownBy w2 row) (hr : ∀ k, row = some k → S k ∨ w.heap.size ≤ k) : Fr S w w2 :=
  h.trans (T := fun b => row = some b) ⟨hg.os, hg.tape, hg.output, hg.size, fun b hb hn => hg.block b hb (fun e => hn e.symm)⟩ (fun b hb hl => by rcases hr b hb with h | h; exact h; omega)
theorem Fr.then_below (h : Fr S w w1) (hb : Below w1.heap.size w1 w2) : Fr S w w2 := h.trans (Fr.of_below hb (fun _ => False)) (fun _ hf _ => hf.elim)
end
end Go.Proofs.Ytgendnoafemgpaa.Hand
namespace Go.Proofs.Ytgendnoafemgpaa.Hand
open Go.RowKit Go.Proofs.YtgendnoafemgpaaW.PrintWords

theorem width_of {width : Int} (h : rightB width = true) : width = 1 ∨ width = 2 ∨ width = 4 ∨ width = 8 := by
  simpa [rightB] using h
theorem right_yes (w : World) {a : Int} (h : rightB a = true) : Calls Try.prog 54 #[.int .i64 a] w fun e w' => e = .returned (.bool true) ∧ w = w' := (right_calls a w).mono fun e w' he => ⟨by rw [he.1, h], he.2⟩
theorem right_nay (w : World) {a : Int} (h : rightB a = false) : Calls Try.prog 54 #[.int .i64 a] w fun e w' => e = .returned (.bool false) ∧ w = w' := (right_calls a w).mono fun e w' he => ⟨by rw [he.1, h], he.2⟩

def fitsB (n width : Int) : Bool := rightB width && (width == 8 || n / 2 ^ (8 * width).toNat == 0)

theorem fits_calls (n width : Int) (w : World) : Calls Try.prog 56 #[.int .u64 n, .int .i64 width, .bool false] w fun e w' => e = .returned (.bool (fitsB n width)) ∧ w = w' := by
  cases hr : rightB width with
  | false =>
    have HR := Aside0.mk hr
    clear hr
    go_enter Try.func56, Try.ntmps56
    go_wp2_with (go_at_call 54; refine (right_nay _ HR.out).mono ?_; rintro e w' ⟨rfl, rfl⟩)
    go_ret
    exact ⟨by rw [fitsB, HR.out]; rfl, rfl⟩
  | true =>
    rcases width_of hr with rfl | rfl | rfl | rfl
    all_goals
      clear hr
      go_enter Try.func56, Try.ntmps56
      go_wp2_with (go_at_call 54; refine (right_yes _ rfl).mono ?_; rintro e w' ⟨rfl, rfl⟩)
      go_ret
      exact ⟨rfl, rfl⟩

theorem fits_yes (w : World) {n width : Int} (h : fitsB n width = true) : Calls Try.prog 56 #[.int .u64 n, .int .i64 width, .bool false] w fun e w' => e = .returned (.bool true) ∧ w = w' := (fits_calls n width w).mono fun e w' he => ⟨by rw [he.1, h], he.2⟩
/-- The lowest k bytes of n, the lowest first. -/
def leB (n : Int) : Nat → List Int
  | 0 => []
  | k + 1 => leB n k ++ [n / 2 ^ (8 * k) % 256]
theorem leB_length (n : Int) (k : Nat) : (leB n k).length = k := by induction k with
  | zero => rfl
  | succ k ih => simp [leB, ih]

theorem info_u8 : (Try.prog.info? 5).map (fun i => (i.zero, i.size, i.bytes)) = some (some (.int .u8 0), 1, 1) := by kernel_rfl

set_option maxHeartbeats 1000000 in
theorem put_calls (P : Nat → Prop) (v : Value) (l : List Int) (width n : Int) (w : World) (ho : Kd.R (Kd.int .u8) 5 w 0 P v l) (h : fitsB n width = true) (hl : l.length + 8 ≤ 140737488355328) :
    Calls Try.prog 44 #[v, .int .i64 width, .int .u64 n] w fun e w' => ∃ v' : Value, e = .returned (.tuple #[v', .bool true]) ∧ Kd.R (Kd.int .u8) 5 w' 0 (fun k => P k ∨ w.heap.size ≤ k) v' (l ++ leB n width.toNat) ∧ Fr P w w' := by
  have hw : 0 < width ∧ width ≤ 8 := by
    have := h
    simp only [fitsB, Bool.and_eq_true] at this
    rcases width_of this.1 with rfl | rfl | rfl | rfl <;> omega
  have HF := Aside0.mk h
  have HO := Aside0.mk ho
  obtain ⟨hw0, hw8⟩ := hw
  clear h ho
  go_enter Try.func44, Try.ntmps44
  go_wp2_with (go_at_call 56; refine (fits_yes _ HF.out).mono ?_; rintro e w' ⟨rfl, rfl⟩)
  go_loopw [0, 15] (fun v0 i wr => ∃ k : Nat, k ≤ width.toNat ∧ i = .int .i64 k ∧ Aside0 (Kd.R (Kd.int .u8) 5 wr 0 (fun k => P k ∨ w.heap.size ≤ k) v0 (l ++ leB n k)) ∧ Aside0 (Fr P w wr)) (fun _ i _ => width.toNat - (intOf i).toNat)
  case atStart => exact ⟨0, Nat.zero_le _, rfl, ⟨by simpa [leB] using Kd.R_mono HO.out (fun k hk => .inl hk)⟩, ⟨Fr.refl _ _⟩⟩
  case round =>
    obtain ⟨k, hk, rfl, HOr, HFr⟩ := hrel
    by_cases hlt : (k : Int) < width
    · have hk2 : k < 8 := by omega
      have HL := Aside0.mk (leB_length n k)
      go_wp2_with (at_builtin; refine Kd.R_append (Kd.int .u8) (w0 := wr) 0 rfl (.tmp 18) (.tmp 24) 49 5 (.int .u8 0) 1 rfl Try.underlying49 info_u8 rfl (by decide) (by omega) u0 (l ++ leB n k) (n / 2 ^ (8 * k) % 256) [.int .u8 (n / 2 ^ (8 * k) % 256)] (fun k => P k ∨ w.heap.size ≤ k) (fun _ => False) rfl rfl ?aP (fun _ hk => hk.elim) ?aF ?aO ?aB ?aS ?aL ?_)
      case aP => exact rfl
      case aF => exact fun k hk => .inr (Nat.le_trans HFr.out.size hk)
      case aO => exact HOr.out
      case aB => exact Below.refl _ _
      case aS => exact Nat.zero_le _
      case aL => have := HL.out; simp; omega
      intro v1 w1 ho hb hg hat
      have HOn := Aside0.mk ho
      have HFn := Aside0.mk ((HFr.out).grown hg HOr.out.1)
      clear ho hb hg hat
      go_wp2
      go_roundw
      case rel => exact ⟨k + 1, by omega, by go_num, ⟨by rw [leB]; exact HOn.out⟩, ⟨HFn.out⟩⟩
      case measure => simp [intOf]; omega
    · have hk2 : k = width.toNat := by omega
      have HE := Aside0.mk hk2
      clear hk2
      go_wp2
      go_ret2
      exact ⟨_, rfl, HE.out ▸ HOr.out, HFr.out⟩
end Go.Proofs.Ytgendnoafemgpaa.Hand
namespace Go.Proofs.Ytgendnoafemgpaa.Hand
open Go.RowKit Go.Proofs.YtgendnoafemgpaaW.PrintWords
section
variable {P : Program} {ops : Array Oper} {rest : List Oper} {o : Oper} {a : Act} {Q : Exit → Act → World → Prop}

end
end Go.Proofs.Ytgendnoafemgpaa.Hand
namespace Go.Proofs.Ytgendnoafemgpaa.Hand
open Go.RowKit Go.Proofs.YtgendnoafemgpaaW.PrintWords

end Go.Proofs.Ytgendnoafemgpaa.Hand
namespace Go.Proofs.Ytgendnoafemgpaa.Hand
open Go.RowKit Go.Proofs.YtgendnoafemgpaaW.PrintWords

theorem own_slice_form {α : Type} {enc : α → Value} {h1 : ∀ x, (enc x).oneCell' = true} {e : Nat} {w : World} {base : Nat} {ok : Nat → Prop} {v : Value} {xs : List α} (h : (Kd.scalar enc h1).R e w base ok v xs) (h0 : 0 < xs.length) :
    ∃ g cap, v = .slice (some ⟨g, 0, none⟩) xs.length cap ∧ base ≤ g ∧ ok g ∧ xs.length ≤ cap ∧ cap ≤ 9223372036854775807 := by
  rcases (Kd.own_of_R h).2 with ⟨_, h2⟩ | ⟨g, cap, cur, hv, hb, _, hc, hm, _⟩
  · omega
  · exact ⟨g, cap, hv, hb, h.1 g (by rw [hv]; rfl), hc, by simpa [maxLen] using hm⟩

end Go.Proofs.Ytgendnoafemgpaa.Hand
namespace Go.Proofs.Ytgendnoafemgpaa.Hand
open Go.RowKit Go.Proofs.YtgendnoafemgpaaW.PrintWords

/-- A kind of so many cells that hold no rows: the cells are reckoned from the element. -/
def flat {α : Type} (enc : α → List Value) (sz : Nat) (hl : ∀ x, (enc x).length = sz) (h1 : ∀ x, ∀ u ∈ enc x, u.oneCell' = true) : Kd α where
  sz := sz
  E := []
  K := fun _ x cs => cs = enc x
  M := fun _ _ _ x cs => cs = enc x
  K_len := by rintro w x cs rfl; exact hl x
  K_one := by rintro w x cs rfl; exact h1 x
  K_below := fun _ h => h
  K_of_M := fun h => h
  M_mono := fun _ h => h
  M_bound := fun h => h
  M_move := fun _ h => h
  M_lower := fun _ h => h
section
variable {α : Type} {enc : α → List Value} {sz : Nat} {hl : ∀ x, (enc x).length = sz} {h1 : ∀ x, ∀ u ∈ enc x, u.oneCell' = true}
theorem C_flat {w : World} {A : Option Addr} {n : Nat} {xs : List α} (h : (flat enc sz hl h1).C w A n xs) {j : Nat} {x : α} (hx : xs[j]? = some x) :
    ∃ ad, A = some ad ∧ ∀ i, i < sz → w.cell? (ad.add (j * sz + i)) = (enc x)[i]? := by
  have hj : j < xs.length := (List.getElem?_eq_some_iff.1 hx).1
  obtain ⟨ad, hA, hc⟩ := h.2.2 (by have := h.1; omega)
  obtain ⟨c, hs, rfl, hcell⟩ := hc j x hx
  refine ⟨ad, hA, fun i hi => ?_⟩
  have hh : (enc x)[i]? = some ((enc x)[i]'(by rw [hl]; exact hi)) := List.getElem?_eq_getElem _
  rw [hh]
  exact hcell i _ hh
end
end Go.Proofs.Ytgendnoafemgpaa.Hand
namespace Go.Proofs.Ytgendnoafemgpaa.Hand
open Go.RowKit Go.Proofs.YtgendnoafemgpaaW.PrintWords

theorem new_cell (w : World) (vs : Array Value) (t : TypeId) (i : Nat) {v : Value} (h : vs[i]? = some v) : (w.alloc (.cells vs t (0, 0))).cell? ⟨w.heap.size, i, none⟩ = some v := by
  have hn := heap_alloc_new w (.cells vs t (0, 0))
  simp only [World.cell?, hn]
  simpa using h
theorem blk_lt {w : World} {b : Nat} {o : Obj} (h : w.heap[b]? = some o) : b < w.heap.size := (Array.getElem?_eq_some_iff.1 h).1
theorem old_blk {w : World} {b : Nat} {o : Obj} (h : w.heap[b]? = some o) (o' : Obj) : (w.alloc o').heap[b]? = some o := (heap_alloc_old _ _ (blk_lt h)).trans h
theorem cell_alloc {w : World} {a : Addr} {v : Value} (h : w.cell? a = some v) : ∀ o, (w.alloc o).cell? a = some v := fun o => by
  rw [World.cell?_alloc_lt _ _ _ (World.block_lt_of_cell? w a h)]
  exact h
/-- A cell of a block whose cells are known. -/
theorem blk_cell {w : World} {b : Nat} {vs : Array Value} {t : TypeId} {fr : Nat × Nat} (h : w.heap[b]? = some (.cells vs t fr)) {i : Nat} {v : Value} (hv : vs[i]? = some v) : w.cell? ⟨b, i, none⟩ = some v := by
  simp only [World.cell?, h]
  simpa using hv
theorem blk_free {w : World} {b : Nat} {vs : Array Value} {t : TypeId} (h : w.heap[b]? = some (.cells vs t (0, 0))) (i : Nat) : w.frozen? ⟨b, i, none⟩ = false := by
  simp only [World.frozen?, h]
  simp
theorem blk_set {w : World} {b : Nat} {vs : Array Value} {t : TypeId} {fr : Nat × Nat} (h : w.heap[b]? = some (.cells vs t fr)) (i : Nat) (u : Value) : (w.setCell ⟨b, i, none⟩ u).heap[b]? = some (.cells (vs.setIfInBounds i u) t fr) := by
  simp [World.setCell, Array.getElem?_modify, h]
theorem blk_far {w : World} {b : Nat} {o : Obj} (h : w.heap[b]? = some o) {a : Addr} (u : Value) (hne : b ≠ a.block) : (w.setCell a u).heap[b]? = some o := (Below.heap_setCell w a u b hne).trans h
theorem cell_far {w : World} {a : Addr} {v : Value} (h : w.cell? a = some v) {p : Addr} (u : Value) (hne : p.block ≠ a.block) : (w.setCell p u).cell? a = some v := (World.cell?_setCell_other w p a u (fun e => hne (by rw [e]))).trans h
theorem loadVar_one {P : Program} (w : World) (g : Nat) (ty : TypeId) {u : Value} (d : TypeDesc) (hc : w.cell? ⟨g, 0, none⟩ = some u) (hu : P.underlying ty = some d) (hd : (match d with | .struct _ | .array _ _ => true | _ => false) = false) :
    (loadVar ty ⟨g, 0, none⟩).run P w = .ok u w := by
  have hagg : (isAgg ty).run P w = .ok false w := by
    unfold isAgg
    rw [Sem.run_bind, run_underlying hu w]
    cases d <;> simp_all
  simp [loadVar, Sem.run_bind, hagg, run_load, hc]
theorem alloc_two (w : World) (o1 o2 : Obj) : ((w.alloc o1).alloc o2).heap[w.heap.size + 1]? = some o2 := by
  have := heap_alloc_new (w.alloc o1) o2
  simpa [World.alloc_eq] using this
theorem alloc_three (w : World) (o1 o2 o3 : Obj) : (((w.alloc o1).alloc o2).alloc o3).heap[w.heap.size + 1 + 1]? = some o3 := by
  have := heap_alloc_new ((w.alloc o1).alloc o2) o3
  simpa [World.alloc_eq] using this
theorem add_plain (b o i : Nat) : (⟨b, o, none⟩ : Addr).add i = ⟨b, o + i, none⟩ := by
  unfold Addr.add
  split <;> simp_all
theorem spot_none {w : World} {a : Addr} {v : Value} (h : w.cell? a = some v) : a.spot = none := by
  unfold World.cell? at h
  split at h
  · split at h
    · cases h
    · rename_i hs
      simpa using hs
  · cases h
/-- A row that is read: its address, and its cells. -/
theorem C_at {α : Type} {enc : α → List Value} {sz : Nat} {hl : ∀ x, (enc x).length = sz} {h1 : ∀ x, ∀ u ∈ enc x, u.oneCell' = true} {w : World} {A : Option Addr} {n : Nat} {xs : List α} (h : (flat enc sz hl h1).C w A n xs) (hs : 0 < sz) {j : Nat} {x : α} (hx : xs[j]? = some x) :
    ∃ b o, A = some ⟨b, o, none⟩ ∧ ∀ i, i < sz → w.cell? ⟨b, o + j * sz + i, none⟩ = (enc x)[i]? := by
  obtain ⟨ad, hA, hc⟩ := C_flat h hx
  have hj : j < xs.length := (List.getElem?_eq_some_iff.1 hx).1
  have hx0 : xs[0]? = some (xs[0]'(by omega)) := List.getElem?_eq_getElem _
  obtain ⟨ad', hA', hc'⟩ := C_flat h hx0
  obtain rfl : ad = ad' := by rw [hA] at hA'; exact Option.some.inj hA'
  have h0 := hc' 0 hs
  have hz : (enc (xs[0]'(by omega)))[0]? = some ((enc (xs[0]'(by omega)))[0]'(by rw [hl]; exact hs)) := List.getElem?_eq_getElem _
  rw [hz] at h0
  have hsp := spot_none h0
  obtain ⟨b, o, sp⟩ := ad
  have : sp = none := by
    have h2 : ((⟨b, o, sp⟩ : Addr).add (0 * sz + 0)).spot = sp := by
      unfold Addr.add
      simp
    rw [h2] at hsp
    exact hsp
  subst this
  refine ⟨b, o, hA, fun i hi => ?_⟩
  have := hc i hi
  rw [add_plain] at this
  rw [← this, Nat.add_assoc]
end Go.Proofs.Ytgendnoafemgpaa.Hand
namespace Go.Proofs.Ytgendnoafemgpaa.Hand
open Go.RowKit Go.Maps Go.Proofs.YtgendnoafemgpaaW.PrintWords

/-- An element is read as itself. -/
def heldR (v : Value) : Option (DataW Value × List MemPlace) := some (.held v, [])
/-- What a datum says of each key. -/
def Fits (D : DataW Value) (f : Lit → Option Value) : Prop := ∀ kl, has D kl = (f kl).isSome ∧ ∀ v, f kl = some v → ∀ z, D.atKey kl z = .held v
/-- The block holds a map of these entries. -/
def MapF (P : Program) (k : TypeId) (w : World) (b : Nat) (f : Lit → Option Value) : Prop := ∃ D, w.ownsMap P k heldR b (Maps.size D) D ∧ Fits D f
def updF (f : Lit → Option Value) (kl : Lit) (v : Value) : Lit → Option Value := fun x => if x.sameKey kl then some v else f x
def delF (f : Lit → Option Value) (kl : Lit) : Lit → Option Value := fun x => if x.sameKey kl then none else f x
/-- So many keys at most. -/
def RoomF (f : Lit → Option Value) (n : Nat) : Prop := ∃ L : List Lit, L.length ≤ n ∧ ∀ kl, (f kl).isSome = true → kl ∈ L

theorem nodup_len {α : Type} (xs : List α) : ∀ L : List α, xs.Nodup → (∀ x ∈ xs, x ∈ L) → xs.length ≤ L.length := by
  classical
  induction xs with
  | nil => exact fun _ _ _ => Nat.zero_le _
  | cons x xs ih =>
    intro L hn hs
    have hx := hs x (List.mem_cons_self ..)
    obtain ⟨h1, h2⟩ := List.nodup_cons.1 hn
    have := ih (L.erase x) h2 (fun y hy => (List.mem_erase_of_ne (fun e => h1 (by rw [← e]; exact hy))).2 (hs y (List.mem_cons_of_mem _ hy)))
    rw [List.length_erase_of_mem hx] at this
    have hl := List.length_pos_of_mem hx
    simp only [List.length_cons]
    omega
section
variable {P : Program} {k : TypeId} {w w1 : World} {b : Nat} {f : Lit → Option Value}
theorem size_le_of_room (hk : Keyed P k) {D : DataW Value} {n m : Nat} (h : w.ownsMap P k heldR b n D) (hf : Fits D f) (hr : RoomF f m) : Maps.size D ≤ m := by
  obtain ⟨es, rfl, hp, hkey⟩ := h.entries hk
  obtain ⟨L, hL, hin⟩ := hr
  have hnd : (es.map (·.1)).Nodup := List.pairwise_map.2 hp
  have := nodup_len (es.map (·.1)) L hnd (fun x hx => by
    obtain ⟨p, hp1, rfl⟩ := List.mem_map.1 hx
    refine hin _ ?_
    rw [← (hf p.1).1, has_eq, List.any_eq_true]
    exact ⟨p, hp1, WideAt.sameKey_self (hkey p hp1)⟩)
  rw [List.length_map] at this
  exact Nat.le_trans this hL
theorem MapF.of_own {D : DataW Value} {n : Nat} (h : w.ownsMap P k heldR b n D) (hf : Fits D f) : MapF P k w b f := by
  refine ⟨D, ?_, hf⟩
  obtain ⟨es, clock, hb, F, hs, hD⟩ := h
  refine ⟨es, clock, hb, F, ?_, hD⟩
  rw [hD]
  simp [Maps.size, length_sorted]
theorem MapF.lt (h : MapF P k w b f) : b < w.heap.size := by obtain ⟨D, h, _⟩ := h; exact h.lt
theorem MapF.same (h : MapF P k w b f) (hb : w1.heap[b]? = w.heap[b]?) : MapF P k w1 b f := by
  obtain ⟨D, ⟨es, clock, h1, h2⟩, hf⟩ := h
  exact ⟨D, ⟨es, clock, hb.trans h1, h2⟩, hf⟩
theorem MapF.fr {S : Nat → Prop} (h : MapF P k w b f) (hf : Fr S w w1) (hb : ¬ S b) : MapF P k w1 b f := h.same (hf.block b h.lt hb)
theorem MapF.below (h : MapF P k w b f) (hb : Below w.heap.size w w1) : MapF P k w1 b f := h.same (hb.block b h.lt)
theorem MapF.blk (h : MapF P k w b f) : ∃ es clock, w.heap[b]? = some (.map es clock) := by
  obtain ⟨D, ⟨es, clock, h1, _⟩, _⟩ := h
  exact ⟨es, clock, h1⟩
/-- A block of cells is no map's. -/
theorem MapF.ne_cells (h : MapF P k w b f) {p : Nat} {cs : Array Value} {t : TypeId} {fr : Nat × Nat} (hp : w.heap[p]? = some (.cells cs t fr)) : p ≠ b := by
  obtain ⟨es, clock, h1⟩ := h.blk
  intro e
  rw [e, h1] at hp
  cases hp
theorem Fits.isMap {D : DataW Value} {n : Nat} (h : w.ownsMap P k heldR b n D) : IsMap D := h.isMap
theorem Fits.put {D : DataW Value} (hD : IsMap D) (hf : Fits D f) {kl : Lit} (hk : WideAt.IsKeyLit kl) (v : Value) : Fits (D.put kl (.held v)) (updF f kl v) := by
  intro x
  by_cases hx : x = kl
  · subst hx
    simp only [updF, WideAt.sameKey_self hk, if_true]
    exact ⟨has_put_same hD hk _, fun u hu z => by injection hu with hu; subst hu; exact atKey_put_same hD hk _ _⟩
  · simp only [updF, sameKey_ne hx, if_false, Bool.false_eq_true]
    exact ⟨(has_put_other hx _).trans (hf x).1, fun u hu z => (atKey_put_other hx _ _).trans ((hf x).2 u hu z)⟩
theorem Fits.del {D : DataW Value} (hf : Fits D f) {kl : Lit} (hk : WideAt.IsKeyLit kl) : Fits (D.del kl) (delF f kl) := by
  intro x
  by_cases hx : x = kl
  · subst hx
    simp only [delF, WideAt.sameKey_self hk, if_true]
    exact ⟨has_del_same, fun u hu => by cases hu⟩
  · simp only [delF, sameKey_ne hx, if_false, Bool.false_eq_true]
    exact ⟨(has_del_other hx).trans (hf x).1, fun u hu z => (atKey_del_other hx _).trans ((hf x).2 u hu z)⟩
theorem Fits.congr {D : DataW Value} {g : Lit → Option Value} (hf : Fits D f) (h : ∀ kl, f kl = g kl) : Fits D g := fun kl => by rw [← h kl]; exact hf kl
theorem MapF.congr {g : Lit → Option Value} (hf : MapF P k w b f) (h : ∀ kl, f kl = g kl) : MapF P k w b g := by
  obtain ⟨D, h1, h2⟩ := hf
  exact ⟨D, h1, h2.congr h⟩
theorem MapF.look1 {t e : TypeId} (h : MapF P k w b f) (K : Keyed P k) (ht : P.underlying t = some (.map k e)) {z : Value} (hz : (zeroValue e).run P w = .ok z w) {key : Value} {kl : Lit} (hkey : keyOf P k key = some kl) :
    (Instr.lookup t (.map (some b)) key false).run P w = .ok ((f kl).getD z) w := by
  obtain ⟨D, h, hf⟩ := h
  obtain ⟨v, ps, hrun, hv⟩ := h.lookup K ht hz (zd := .held z) (zp := []) rfl hkey
  simp only [heldR, Option.some.injEq, Prod.mk.injEq] at hv
  rw [hrun]
  cases hx : f kl with
  | some u =>
    rw [(hf kl).2 u hx] at hv
    obtain ⟨hv, _⟩ := hv
    injection hv with hv
    rw [hv]
    rfl
  | none =>
    have hh : has D kl = false := by rw [(hf kl).1, hx]; rfl
    rw [atKey_of_not_has hh] at hv
    obtain ⟨hv, _⟩ := hv
    injection hv with hv
    rw [hv]
    rfl
theorem MapF.upd {t e : TypeId} (h : MapF P k w b f) (K : Keyed P k) (ht : P.underlying t = some (.map k e)) {n : Nat} (hr : RoomF f n) (hn : n < maxLen) {key val : Value} {kl : Lit} (hkey : keyOf P k key = some kl) :
    ∃ w', (Instr.mapUpdate t (.map (some b)) key val).run P w = .ok () w' ∧ MapF P k w' b (updF f kl val) ∧ w.mapTurned w' b := by
  obtain ⟨D, h, hf⟩ := h
  obtain ⟨w', h1, h2, h3⟩ := h.store K ht (Nat.lt_of_le_of_lt (size_le_of_room K h hf hr) hn) (d := .held val) (ps := []) hkey rfl
  exact ⟨w', h1, MapF.of_own h2 (hf.put h.isMap (K.key hkey) val), h3⟩
theorem MapF.drop {t e : TypeId} (h : MapF P k w b f) (K : Keyed P k) (ht : P.underlying t = some (.map k e)) {key : Value} {kl : Lit} (hkey : keyOf P k key = some kl) (ty : TypeId) :
    ∃ w', (Builtin.delete_ #[t, k] ty #[.map (some b), key]).run P w = .ok (.tuple #[]) w' ∧ MapF P k w' b (delF f kl) ∧ w.mapTurned w' b := by
  obtain ⟨D, h, hf⟩ := h
  obtain ⟨w', h1, h2, h3⟩ := h.drop K ht hkey ty
  exact ⟨w', h1, MapF.of_own h2 (hf.del (K.key hkey)), h3⟩
theorem _root_.Go.World.mapTurned.fr {S : Nat → Prop} (h : w.mapTurned w1 b) (hS : S b) : Fr S w w1 := by
  have hg := h.grown
  exact ⟨hg.os, hg.tape, hg.output, hg.size, fun i hi hn => hg.block i hi (fun e => hn (by injection e with e; rw [e]; exact hS))⟩
end
section
variable {P : Program} {w : World} {ops : Array Oper} {rest : List Oper} {o : Oper} {a : Act} {Q : Exit → Act → World → Prop} {k e : TypeId} {b : Nat} {f : Lit → Option Value}
/-- 'delete(m, k)'. -/
theorem wpList_del (hg : o.guard = none) (m x : Operand) (t : TypeId) (hop : o.op = Op.call { callee := Callee.builtin Builtin.delete, args := #[m, x], argTypes := #[t, k] }) (K : Keyed P k) (ht : P.underlying t = some (.map k e))
    (hm : a.eval m = .map (some b)) (hown : MapF P k w b f) (key : Value) (kl : Lit) (hx : a.eval x = key) (hkey : keyOf P k key = some kl)
    (hK : ∀ w', MapF P k w' b (delF f kl) → w.mapTurned w' b → wpList P ops Q rest (a.put o.dst (.tuple #[])) w') : wpList P ops Q (o :: rest) a w := by
  refine wpList_plain hg fun K' hK' => ?_
  obtain ⟨w', hrun, h1, h2⟩ := hown.drop K ht hkey o.type
  unfold Oper.wp
  simp [execOp, hop, resolve, invoke, builtin, hm, hx, hrun, Result.andThen]
  exact hK' _ _ (hK w' h1 h2)
end
end Go.Proofs.Ytgendnoafemgpaa.Hand
namespace Go.Proofs.Ytgendnoafemgpaa.Hand
open Go.RowKit Go.Proofs.YtgendnoafemgpaaW.PrintWords

theorem rRight_calls (a : Int) (w : World) : Calls Try.prog 55 #[.int .i64 a] w fun e w' => e = .returned (.bool (rightB a)) ∧ w = w' := by
  by_cases h1 : a = 1
  · go_enter Try.func55, Try.ntmps55
    go_wp2
    go_ret
    exact ⟨by simp [rightB, h1], rfl⟩
  · by_cases h2 : a = 2
    · go_enter Try.func55, Try.ntmps55
      go_wp2
      go_ret
      exact ⟨by simp [rightB, h2], rfl⟩
    · by_cases h3 : a = 4
      · go_enter Try.func55, Try.ntmps55
        go_wp2
        go_ret
        exact ⟨by simp [rightB, h3], rfl⟩
      · go_enter Try.func55, Try.ntmps55
        go_wp2
        go_ret
        exact ⟨by rw [rightB, beq_false_of_ne h1, beq_false_of_ne h2, beq_false_of_ne h3]; rfl, rfl⟩
theorem rRight_of (w : World) {a : Int} {b : Bool} (h : rightB a = b) : Calls Try.prog 55 #[.int .i64 a] w fun e w' => e = .returned (.bool b) ∧ w = w' := (rRight_calls a w).mono fun e w' he => ⟨by rw [he.1, h], he.2⟩

def topN (width : Int) : Int := if width = 1 then 255 else if width = 2 then 65535 else if width = 4 then 4294967295 else 18446744073709551615
set_option maxHeartbeats 1000000 in
theorem rTop_calls (width : Int) (h : rightB width = true) (w : World) : Calls Try.prog 57 #[.int .i64 width] w fun e w' => e = .returned (.int .u64 (topN width)) ∧ w = w' := by
  rcases width_of h with rfl | rfl | rfl | rfl
  all_goals
    clear h
    go_enter Try.func57, Try.ntmps57
    go_wp2
    go_rounds 9
    go_ret
    exact ⟨rfl, rfl⟩

theorem str_app (a b : List Int) : strOfNums a ++ strOfNums b = strOfNums (a ++ b) := by
  apply ByteArray.ext
  rw [ByteArray.data_append]
  simp [strOfNums]

def rfitsB (n width : Int) : Bool := rightB width && decide (n ≤ topN width)
set_option maxHeartbeats 1000000 in
theorem rPut_yes (width n : Int) (w : World) (h : rfitsB n width = true) (hn : 0 ≤ n) : Calls Try.prog 45 #[.int .i64 width, .int .u64 n] w fun e w' => e = .returned (.string (strOfNums (leB n width.toNat))) ∧ Below w.heap.size w w' := by
  obtain ⟨hr, ht⟩ : rightB width = true ∧ n ≤ topN width := by simpa [rfitsB] using h
  have hw : 0 < width ∧ width ≤ 8 := by
    rcases width_of hr with rfl | rfl | rfl | rfl <;> omega
  have hm : n ≤ 18446744073709551615 := by
    refine Int.le_trans ht ?_
    unfold topN
    repeat' split
    all_goals omega
  obtain ⟨hw0, hw8⟩ := hw
  have HR := Aside0.mk hr
  clear h hr
  have hq : ∀ k : Nat, 0 ≤ n / 2 ^ (8 * k) ∧ n / 2 ^ (8 * k) ≤ 18446744073709551615 := fun k => by
    have h2 : (0 : Int) < 2 ^ (8 * k) := Int.pow_pos (by omega)
    exact ⟨Int.ediv_nonneg hn (by omega), Int.le_trans (Int.ediv_le_self _ hn) hm⟩
  have HQ := Aside0.mk hq
  clear hq hm
  go_enter Try.func45, Try.ntmps45
  go_wp2_with (first | (go_at_call 55; refine (rRight_of _ HR.out).mono ?_; rintro e w' ⟨rfl, rfl⟩) | (go_at_call 57; refine (rTop_calls width HR.out _).mono ?_; rintro e w' ⟨rfl, rfl⟩))
  clear ht
  go_loopw [1, 5, 6] (fun vn vs i wr => ∃ (k : Nat) (q : Int), k ≤ width.toNat ∧ i = .int .i64 k ∧ vn = .int .u64 q ∧ Aside0 (q = n / 2 ^ (8 * k)) ∧ vs = .string (strOfNums (leB n k)) ∧ Below w.heap.size w wr) (fun _ _ i _ => width.toNat - (intOf i).toNat)
  case atStart => exact ⟨0, n, Nat.zero_le _, rfl, rfl, ⟨by simp⟩, rfl, Below.refl _ _⟩
  case round =>
    obtain ⟨k, q, hk, rfl, rfl, hq, rfl, hb⟩ := hrel
    have hq0 : 0 ≤ q ∧ q ≤ 18446744073709551615 := hq.out ▸ HQ.out k
    obtain ⟨hq0, hq1⟩ := hq0
    have HB := Aside0.mk hb
    clear hb
    by_cases hlt : (k : Int) < width
    · have hconv := run_convert_bytes_arg (P := Try.prog) (wr.alloc (.cells #[.int .u8 (q % 256)] 5)) 49 5 Try.underlying49 Try.underlying5 wr.heap.size 0 1 1 [q % 256] rfl (fun i hi => by (obtain rfl : i = 0 := by omega); simp) 9 Try.underlying9
      have hz1 : (strOfNums (leB n k)).size ≤ 8 := by rw [strOfNums_size, leB_length]; omega
      have hz2 : (strOfNums [q % 256]).size ≤ 1 := by rw [strOfNums_size]; exact Nat.le_refl _
      go_wp2
      go_roundw
      case rel => exact ⟨k + 1, q / 256, by omega, by go_num, rfl, ⟨by rw [hq.out, Int.ediv_ediv_of_nonneg (Int.le_of_lt (Int.pow_pos (by omega))), Nat.mul_add, Int.pow_add]; rfl⟩, by rw [str_app, leB, hq.out], below_alloc HB.out _⟩
      case measure => simp [intOf]; omega
    · have hk2 : k = width.toNat := by omega
      have HE := Aside0.mk hk2
      clear hk2
      go_wp2
      go_ret
      exact ⟨by rw [← HE.out]; rfl, HB.out⟩
end Go.Proofs.Ytgendnoafemgpaa.Hand
namespace Go.Proofs.Ytgendnoafemgpaa.Hand
open Go.RowKit Go.Proofs.YtgendnoafemgpaaW.PrintWords

def Bys (l : List Int) : Prop := ∀ x ∈ l, 0 ≤ x ∧ x < 256
theorem rd_bys {l : List Int} (h : Bys l) (i : Int) : 0 ≤ rd l i ∧ rd l i < 256 := by
  unfold rd
  rcases Nat.lt_or_ge i.toNat l.length with hl | hl
  · rw [List.getD_eq_getElem?_getD, List.getElem?_eq_getElem hl]
    exact h _ (List.getElem_mem hl)
  · rw [List.getD_eq_getElem?_getD, List.getElem?_eq_none hl]
    exact ⟨Int.le_refl _, by decide⟩
theorem bytesOf_bys (s : ByteArray) : Bys (bytesOf s) := by
  intro x hx
  simp only [bytesOf, List.mem_map] at hx
  obtain ⟨b, _, rfl⟩ := hx
  have := b.toNat_lt
  omega
/-- The number of bytes, the lowest first. -/
def numL : List Int → Int
  | [] => 0
  | x :: l => x + 256 * numL l
theorem numL_nonneg {l : List Int} (h : Bys l) : 0 ≤ numL l := by
  induction l with
  | nil => exact Int.le_refl _
  | cons x l ih =>
    have := ih (fun y hy => h y (List.mem_cons_of_mem _ hy))
    have := h x List.mem_cons_self
    unfold numL
    omega
theorem numL_lt {l : List Int} (h : Bys l) : numL l < 256 ^ l.length := by
  induction l with
  | nil => decide
  | cons x l ih =>
    have := ih (fun y hy => h y (List.mem_cons_of_mem _ hy))
    have := h x List.mem_cons_self
    unfold numL
    rw [List.length_cons, Int.pow_succ]
    omega
theorem numL_append (l m : List Int) : numL (l ++ m) = numL l + 256 ^ l.length * numL m := by
  induction l with
  | nil => simp [numL]
  | cons x l ih =>
    rw [List.cons_append, numL, numL, ih, List.length_cons, Int.pow_succ, Int.mul_add, ← Int.mul_assoc, Int.add_assoc, Int.mul_comm 256 (256 ^ l.length)]
/-- So many bytes from at_ on. -/
def cut (l : List Int) (a w : Nat) : List Int := (l.drop a).take w
theorem cut_bys {l : List Int} (h : Bys l) (a w : Nat) : Bys (cut l a w) := fun x hx => h x (List.mem_of_mem_drop (List.mem_of_mem_take hx))
theorem cut_length {l : List Int} {a w : Nat} (h : a + w ≤ l.length) : (cut l a w).length = w := by
  simp only [cut, List.length_take, List.length_drop]
  omega
theorem cut_succ {l : List Int} {a k : Nat} (h : a + k < l.length) : cut l a (k + 1) = cut l a k ++ [rd l ((a : Int) + k)] := by
  have hd : k < (l.drop a).length := by rw [List.length_drop]; omega
  rw [cut, cut, List.take_succ_eq_append_getElem hd, List.getElem_drop]
  congr 2
  unfold rd
  rw [show ((a : Int) + k).toNat = a + k by omega, List.getD_eq_getElem?_getD, List.getElem?_eq_getElem h]
  rfl
/-- The number from the highest byte down, as the reference reckons it. -/
def hiN (l : List Int) (a : Int) (w : Nat) : Nat → Int
  | 0 => 0
  | j + 1 => hiN l a w j * 256 + rd l (a + (w - 1 - j : Int))
theorem hiN_range {l : List Int} (h : Bys l) (a : Int) (w j : Nat) : 0 ≤ hiN l a w j ∧ hiN l a w j < 256 ^ j := by
  induction j with
  | zero => exact ⟨Int.le_refl _, by simp [hiN]⟩
  | succ j ih =>
    have := rd_bys h (a + (w - 1 - j : Int))
    unfold hiN
    rw [Int.pow_succ]
    omega
theorem hiN_eq {l : List Int} (a w j : Nat) (hj : j ≤ w) (h : a + w ≤ l.length) : hiN l a w j = numL (cut l (a + (w - j)) j) := by
  induction j with
  | zero => simp [hiN, cut, numL]
  | succ j ih =>
    rw [hiN, ih (by omega)]
    have hlt : a + (w - (j + 1)) < l.length := by omega
    have e : cut l (a + (w - (j + 1))) (j + 1) = rd l ((a : Int) + (w - 1 - j : Int)) :: cut l (a + (w - j)) j := by
      unfold cut
      rw [List.drop_eq_getElem_cons hlt, List.take_succ_cons, show a + (w - (j + 1)) + 1 = a + (w - j) by omega]
      congr 1
      unfold rd
      rw [show ((a : Int) + (w - 1 - j : Int)).toNat = a + (w - (j + 1)) by omega, List.getD_eq_getElem?_getD, List.getElem?_eq_getElem hlt]
      rfl
    rw [e, numL]
    omega
theorem pow256 (k : Nat) : (256 : Int) ^ k = 2 ^ (8 * k) := by
  rw [Int.pow_mul]
  rfl
theorem u64_wrap_of {x : Int} (h0 : 0 ≤ x) (h1 : x < 18446744073709551616) : IntKind.u64.wrap x = x := by
  have : IntKind.u64.wrap x = x % 18446744073709551616 := by simp [IntKind.wrap, IntKind.signed, IntKind.bits]
  omega
theorem or_split (a x : Int) (k : Nat) (hk : k < 8) (ha : 0 ≤ a) (ha2 : a < 2 ^ (8 * k)) (hx : 0 ≤ x) (hx2 : x < 256) : bits .or .u64 a (x * 2 ^ (8 * k)) = a + 2 ^ (8 * k) * x := by
  obtain ⟨a, rfl⟩ := Int.eq_ofNat_of_zero_le ha
  obtain ⟨x, rfl⟩ := Int.eq_ofNat_of_zero_le hx
  have ha3 : a < 2 ^ (8 * k) := by exact_mod_cast ha2
  have hx3 : x < 256 := by omega
  have hp : (2 : Nat) ^ (8 * k) ≤ 2 ^ 56 := Nat.pow_le_pow_right (by omega) (by omega)
  have hm : x * 2 ^ (8 * k) < 18446744073709551616 := by
    calc x * 2 ^ (8 * k) ≤ 255 * 2 ^ 56 := Nat.mul_le_mul (by omega) hp
      _ < 18446744073709551616 := by decide
  have e : ((x : Int) * 2 ^ (8 * k)) = ((x * 2 ^ (8 * k) : Nat) : Int) := by push_cast; rfl
  rw [e, u64_or_nat a _ (by omega) hm]
  have h2 := Nat.shiftLeft_add_eq_or_of_lt ha3 x
  rw [Nat.shiftLeft_eq] at h2
  rw [Nat.or_comm, ← h2]
  push_cast
  rw [Int.mul_comm, Int.add_comm]
theorem getN_eq {l : List Int} (hb : Bys l) (a k : Nat) (hk : k ≤ 8) (h : a + k ≤ l.length) : getN l a k = numL (cut l a k) := by
  induction k with
  | zero => simp [getN, cut, numL]
  | succ k ih =>
    have hx := rd_bys hb ((a : Int) + k)
    have hl := numL_lt (cut_bys hb a k)
    rw [cut_length (by omega), pow256] at hl
    have h0 := numL_nonneg (cut_bys hb a k)
    have hp : (2 : Int) ^ (8 * k) ≤ 2 ^ 56 := by
      have : (2 : Nat) ^ (8 * k) ≤ 2 ^ 56 := Nat.pow_le_pow_right (by omega) (by omega)
      exact_mod_cast this
    have hp0 : (0 : Int) < 2 ^ (8 * k) := Int.pow_pos (by omega)
    have hm : rd l ((a : Int) + k) * 2 ^ (8 * k) < 18446744073709551616 := by
      calc rd l ((a : Int) + k) * 2 ^ (8 * k) ≤ 255 * 2 ^ 56 := Int.mul_le_mul (by omega) hp (by omega) (by omega)
        _ < 18446744073709551616 := by decide
    have hm0 : 0 ≤ rd l ((a : Int) + k) * 2 ^ (8 * k) := Int.mul_nonneg hx.1 (by omega)
    rw [getN, ih (by omega) (by omega), u64_wrap_of hx.1 (by omega), u64_wrap_of hm0 hm, or_split _ _ k (by omega) h0 hl hx.1 hx.2, cut_succ (by omega), numL_append, cut_length (by omega), pow256]
    simp [numL]
end Go.Proofs.Ytgendnoafemgpaa.Hand
namespace Go.Proofs.Ytgendnoafemgpaa.Hand
open Go.RowKit
end Go.Proofs.Ytgendnoafemgpaa.Hand
namespace Go.Proofs.Ytgendnoafemgpaa.Hand
open Go.RowKit Go.Proofs.YtgendnoafemgpaaW.PrintWords

set_option maxHeartbeats 1000000 in
theorem rGet_no (s : ByteArray) (at_ width : Int) (w : World) (h : (rightB width && insideB at_ width s.size) = false) :
    Calls Try.prog 43 #[.string s, .int .i64 at_, .int .i64 width] w fun e w' => e = .returned (.tuple #[.int .u64 0, .bool false]) ∧ w = w' := by
  cases hr : rightB width with
  | false =>
    have HR := Aside0.mk hr
    clear h hr
    go_enter Try.func43, Try.ntmps43
    go_wp2_with (go_at_call 55; refine (rRight_of _ HR.out).mono ?_; rintro e w' ⟨rfl, rfl⟩)
    go_ret2
    exact ⟨rfl, rfl⟩
  | true =>
    have hi : insideB at_ width s.size = false := by simpa [hr] using h
    have hw : width ≤ 8 := by rcases width_of hr with rfl | rfl | rfl | rfl <;> omega
    have HR := Aside0.mk hr
    clear h hr
    by_cases h0 : at_ < 0
    · clear hi
      go_enter Try.func43, Try.ntmps43
      go_wp2_with (go_at_call 55; refine (rRight_of _ HR.out).mono ?_; rintro e w' ⟨rfl, rfl⟩)
      go_ret2
      exact ⟨rfl, rfl⟩
    · by_cases h1 : at_ > (s.size : Int)
      · clear hi
        go_enter Try.func43, Try.ntmps43
        go_wp2_with (go_at_call 55; refine (rRight_of _ HR.out).mono ?_; rintro e w' ⟨rfl, rfl⟩)
        go_ret2
        exact ⟨rfl, rfl⟩
      · have h2 : (s.size : Int) - at_ < width := by
          have : ¬ (0 ≤ at_ ∧ at_ ≤ (s.size : Int) ∧ width ≤ (s.size : Int) - at_) := by
            intro hh
            rw [insideB, decide_eq_true hh.1, decide_eq_true hh.2.1, decide_eq_true hh.2.2] at hi
            exact absurd hi (by decide)
          omega
        clear hi
        go_enter Try.func43, Try.ntmps43
        go_wp2_with (go_at_call 55; refine (rRight_of _ HR.out).mono ?_; rintro e w' ⟨rfl, rfl⟩)
        go_ret2
        exact ⟨rfl, rfl⟩

theorem pow_le7 (j : Nat) (h : j ≤ 7) : (256 : Int) ^ j ≤ 72057594037927936 := by
  have h1 : 256 ^ j ≤ 256 ^ 7 := Nat.pow_le_pow_right (by omega) h
  have h2 : (256 : Int) ^ j = ((256 ^ j : Nat) : Int) := (Int.natCast_pow 256 j).symm
  have h3 : (256 : Nat) ^ 7 = 72057594037927936 := by decide
  omega
theorem inside_of {at_ width : Int} {n : Nat} (h : (rightB width && insideB at_ width n) = true) : ∃ a m : Nat, at_ = a ∧ width = m ∧ 0 < m ∧ m ≤ 8 ∧ a + m ≤ n := by
  have hii : rightB width = true ∧ 0 ≤ at_ ∧ at_ ≤ n ∧ width ≤ n - at_ := by
    simpa only [insideB, Bool.and_eq_true, decide_eq_true_eq] using h
  obtain ⟨hr, h0, h1, h2⟩ := hii
  have hw : 0 < width ∧ width ≤ 8 := by
    rcases width_of hr with rfl | rfl | rfl | rfl <;> omega
  exact ⟨at_.toNat, width.toNat, by omega, by omega, by omega, by omega, by omega⟩

set_option maxHeartbeats 1000000 in
theorem rGet_yes (s : ByteArray) (at_ width : Int) (w : World) (hs : s.size ≤ 140737488355328) (h : (rightB width && insideB at_ width s.size) = true) :
    Calls Try.prog 43 #[.string s, .int .i64 at_, .int .i64 width] w fun e w' => e = .returned (.tuple #[.int .u64 (numL (cut (bytesOf s) at_.toNat width.toNat)), .bool true]) ∧ w = w' := by
  obtain ⟨a, m, rfl, rfl, hm0, hm8, ham⟩ := inside_of h
  have HR := Aside0.mk (show rightB m = true by simpa using (Bool.and_eq_true_iff.1 h).1)
  have HH := Aside0.mk (fun j => hiN_range (bytesOf_bys s) a m j)
  have h1 : ¬ ((a : Int) > (s.size : Int)) := by omega
  have h2 : ¬ ((s.size : Int) - (a : Int) < (m : Int)) := by omega
  clear h
  go_enter Try.func43, Try.ntmps43
  go_wp2_with (go_at_call 55; refine (rRight_of _ HR.out).mono ?_; rintro e w' ⟨rfl, rfl⟩)
  go_loop [8, 9] (fun vn i => ∃ (j : Nat) (q : Int), j ≤ m ∧ i = .int .i64 ((m : Int) - 1 - j) ∧ vn = .int .u64 q ∧ Aside0 (q = hiN (bytesOf s) a m j)) (fun _ i => (intOf i + 1).toNat)
  case atStart => exact ⟨0, 0, Nat.zero_le _, by go_num, rfl, ⟨rfl⟩⟩
  case round =>
    obtain ⟨j, q, hj, rfl, rfl, hq⟩ := hrel
    by_cases hlt : j < m
    · have hq0 : 0 ≤ q ∧ q * 256 + 256 ≤ 18446744073709551616 := by
        have := HH.out j
        rw [← hq.out] at this
        have hp := pow_le7 j (by omega)
        omega
      obtain ⟨hq0, hq1⟩ := hq0
      have hb := bt_at s (a + ((m : Int) - 1 - j))
      have hb2 := bt_range s (a + ((m : Int) - 1 - j))
      obtain ⟨hb2, hb3⟩ := hb2
      have HS := Aside0.mk (show hiN (bytesOf s) a m (j + 1) = q * 256 + bt s (a + ((m : Int) - 1 - j)) by rw [hiN, hq.out, rd_bytesOf])
      go_wp2
      go_round
      case rel => exact ⟨j + 1, _, by omega, by go_num, rfl, ⟨HS.out.symm⟩⟩
      case measure => simp [intOf]; omega
    · obtain rfl : j = m := by omega
      have HE := Aside0.mk (hiN_eq (l := bytesOf s) a j j (Nat.le_refl _) (by rw [bytesOf_length]; exact ham))
      go_wp2
      go_ret2
      exact ⟨by rw [hq.out, HE.out]; simp, rfl⟩

end Go.Proofs.Ytgendnoafemgpaa.Hand
namespace Go.Proofs.Ytgendnoafemgpaa.Hand
open Go.RowKit Go.Proofs.YtgendnoafemgpaaW.PrintWords

theorem conv_some {w : World} (a : Addr) {c : Nat} {xs : List Int} (h : ReadsInt w .u8 (some a) xs.length xs) : (convert 49 9 (.slice (some a) xs.length c)).run Try.prog w = .ok (.string (strOfNums xs)) w := by
  have hl : (loadCells a xs.length).run Try.prog w = .ok (xs.map (Value.int .u8)).toArray w := by
    have := run_loadCells_list (P := Try.prog) w a (xs.map (Value.int .u8)) (fun j v hj => by
      have hjl : j < xs.length := by
        rcases Nat.lt_or_ge j xs.length with h | h
        · exact h
        · simp [List.getElem?_eq_none (show (xs.map (Value.int .u8)).length ≤ j by simpa using h)] at hj
      obtain ⟨ad, he, hc⟩ := h.2.2 (by omega)
      obtain rfl := Option.some.inj he
      rw [hc j hjl]
      simp [List.getElem?_eq_getElem hjl] at hj
      subst hj
      simp [List.getD, List.getElem?_eq_getElem hjl])
    simpa using this
  rw [run_convert_bytes_string w 49 9 5 _ xs.length c Try.underlying49 Try.underlying5 Try.underlying9, run_bytesToString w _ xs.length c xs hl, foldl_push_bytes]
  simp [strOfNums, ByteArray.empty, ByteArray.emptyWithCapacity]
  rfl
theorem conv_reads {w : World} {A : Option Addr} {c : Nat} {xs : List Int} (h : ReadsInt w .u8 A xs.length xs) : (convert 49 9 (.slice A xs.length c)).run Try.prog w = .ok (.string (strOfNums xs)) w := by
  cases A with
  | none =>
    obtain rfl : xs = [] := by
      cases xs with
      | nil => rfl
      | cons x l => exact absurd (h.2.2 (by simp)) (by simp)
    exact run_convert_bytes_nil w 49 5 Try.underlying49 Try.underlying5 0 c 9 Try.underlying9
  | some a =>
    exact conv_some a h
/-- What Get tells, as one number and one answer. -/
def gNum (l : List Int) (at_ width : Int) : Int := if rightB width && insideB at_ width l.length then numL (cut l at_.toNat width.toNat) else 0
theorem get_any (A : Option Addr) (c : Nat) (l : List Int) (at_ width : Int) (w : World) (hr : ReadsInt w .u8 A l.length l) (hb : Bys l) :
    Calls Try.prog 41 #[.slice A l.length c, .int .i64 at_, .int .i64 width] w fun e w' => e = .returned (.tuple #[.int .u64 (gNum l at_ width), .bool (rightB width && insideB at_ width l.length)]) ∧ Below w.heap.size w w' := by
  cases h : (rightB width && insideB at_ width l.length) with
  | true =>
    obtain ⟨a, m, rfl, rfl, hm0, hm8, ham⟩ := inside_of h
    refine (get_yes l A c a m w hr h).mono fun e w' he => ⟨?_, he.2⟩
    rw [he.1, gNum, h, if_pos rfl, Int.toNat_natCast, getN_eq hb a m hm8 ham]
    rfl
  | false =>
    refine (get_no l A c at_ width w hr.2.1 h).mono fun e w' he => ⟨?_, he.2⟩
    rw [he.1, gNum, h]
    rfl
theorem bytes_str {l : List Int} (hb : Bys l) : bytesOf (strOfNums l) = l := by
  unfold bytesOf
  rw [strOfNums_data, List.map_map]
  conv => rhs; rw [← List.map_id l]
  apply List.map_congr_left
  intro x hx
  have := hb x hx
  simp only [Function.comp, UInt8.toNat_ofNat', id]
  omega
theorem rGet_any (l : List Int) (at_ width : Int) (w : World) (hb : Bys l) (hs : l.length ≤ 140737488355328) :
    Calls Try.prog 43 #[.string (strOfNums l), .int .i64 at_, .int .i64 width] w fun e w' => e = .returned (.tuple #[.int .u64 (gNum l at_ width), .bool (rightB width && insideB at_ width l.length)]) ∧ w = w' := by
  cases h : (rightB width && insideB at_ width l.length) with
  | true =>
    refine (rGet_yes (strOfNums l) at_ width w (by rw [strOfNums_size]; exact hs) (by rw [strOfNums_size]; exact h)).mono fun e w' he => ⟨?_, he.2⟩
    rw [he.1, gNum, h, if_pos rfl, bytes_str hb]
  | false =>
    refine (rGet_no (strOfNums l) at_ width w (by rw [strOfNums_size]; exact h)).mono fun e w' he => ⟨?_, he.2⟩
    rw [he.1, gNum, h]
    rfl

end Go.Proofs.Ytgendnoafemgpaa.Hand
namespace Go.Proofs.Ytgendnoafemgpaa.Hand
open Go.RowKit Go.Proofs.YtgendnoafemgpaaW.PrintWords
end Go.Proofs.Ytgendnoafemgpaa.Hand
namespace Go.Proofs.Ytgendnoafemgpaa.Hand
open Go.RowKit Go.Maps Go.Proofs.YtgendnoafemgpaaW.PrintWords
set_option linter.unusedVariables false
set_option linter.unusedSimpArgs false
abbrev Pc := Nat × Nat
/-- Rising, apart, none empty, from e on, up to U. -/
def Chain : Nat → List Pc → Nat → Prop
  | e, [], U => e ≤ U
  | e, q :: l, U => e ≤ q.1 ∧ 1 ≤ q.2 ∧ Chain (q.1 + q.2) l U
/-- The pieces that are free. -/
def gaps : Nat → List Pc → Nat → List Pc
  | e, [], U => if e < U then [(e, U - e)] else []
  | e, q :: l, U => (if e < q.1 then [(e, q.1 - e)] else []) ++ gaps (q.1 + q.2) l U
/-- How many a block has. -/
def longN : List Pc → Nat → Nat
  | [], _ => 0
  | q :: l, a => if q.1 = a then q.2 else longN l a
def longI (bs : List Pc) (x : Int) : Int := if 0 ≤ x then (longN bs x.toNat : Int) else 0
def ins (a n : Nat) : List Pc → List Pc
  | [] => [(a, n)]
  | q :: l => if a < q.1 then (a, n) :: q :: l else q :: ins a n l
def del (a : Nat) (bs : List Pc) : List Pc := bs.filter (fun q => q.1 != a)
/-- Whose a unit is: where its block begins, and 1; 0: it is free. -/
def own : List Pc → Nat → Nat
  | [], _ => 0
  | q :: l, i => if q.1 ≤ i ∧ i < q.1 + q.2 then q.1 + 1 else own l i
def occ (U : Nat) (bs : List Pc) : List Int := (List.range U).map fun i => (own bs i : Int)
theorem chain_le : ∀ {bs : List Pc} {e U : Nat}, Chain e bs U → e ≤ U
  | [], _, _, h => h
  | q :: l, e, U, h => by have := chain_le h.2.2; have := h.1; omega
theorem chain_mono : ∀ {bs : List Pc} {e e' U : Nat}, Chain e bs U → e' ≤ e → Chain e' bs U
  | [], _, _, _, h, he => Nat.le_trans he h
  | q :: l, _, _, _, h, he => ⟨Nat.le_trans he h.1, h.2⟩
theorem chain_mem : ∀ {bs : List Pc} {e U : Nat}, Chain e bs U → ∀ q ∈ bs, e ≤ q.1 ∧ 1 ≤ q.2 ∧ q.1 + q.2 ≤ U
  | [], _, _, _, q, hq => by cases hq
  | p :: l, e, U, h, q, hq => by
    rcases List.mem_cons.1 hq with rfl | hq
    · exact ⟨h.1, h.2.1, chain_le h.2.2⟩
    · have := chain_mem h.2.2 q hq
      have := h.1
      omega
theorem longN_lt {bs : List Pc} {e U a : Nat} (h : Chain e bs U) (ha : a < e) : longN bs a = 0 := by
  induction bs generalizing e with
  | nil => rfl
  | cons q l ih =>
    have h1 := h.1
    rw [longN, if_neg (by omega)]
    exact ih h.2.2 (by omega)
theorem longN_pos {bs : List Pc} {e U a : Nat} (h : Chain e bs U) : 0 < longN bs a ↔ ∃ q ∈ bs, q.1 = a := by
  induction bs generalizing e with
  | nil => simp [longN]
  | cons q l ih =>
    simp only [longN, List.mem_cons, exists_eq_or_imp]
    split
    · rename_i hq
      have := h.2.1
      exact ⟨fun _ => .inl hq, fun _ => by omega⟩
    · rename_i hq
      rw [ih h.2.2]
      simp [hq]
theorem longN_of {bs : List Pc} {e U : Nat} (h : Chain e bs U) {q : Pc} (hq : q ∈ bs) : longN bs q.1 = q.2 := by
  induction bs generalizing e with
  | nil => cases hq
  | cons p l ih =>
    rcases List.mem_cons.1 hq with rfl | hm
    · rw [longN, if_pos rfl]
    · have := chain_mem h.2.2 q hm
      have h2 := h.2.1
      rw [longN, if_neg (by omega)]
      exact ih h.2.2 hm
/-- What the map says of each key. -/
def bkF (bs : List Pc) : Lit → Option Value
  | .int .i64 x => if 0 ≤ x ∧ 0 < longN bs x.toNat then some (.int .i64 (longN bs x.toNat : Int)) else none
  | _ => none
theorem bkF_get (bs : List Pc) (x : Int) : (bkF bs (.int .i64 x)).getD (.int .i64 0) = .int .i64 (longI bs x) := by
  simp only [bkF, longI]
  split
  · rename_i h
    rw [if_pos h.1]
    rfl
  · rename_i h
    by_cases hx : 0 ≤ x
    · rw [if_pos hx]
      have : longN bs x.toNat = 0 := by
        rcases Nat.eq_zero_or_pos (longN bs x.toNat) with h0 | h0
        · exact h0
        · exact absurd ⟨hx, h0⟩ h
      simp [this]
    · rw [if_neg hx]; rfl
theorem bkF_some {bs : List Pc} {kl : Lit} (h : (bkF bs kl).isSome = true) : ∃ k : Nat, kl = .int .i64 k ∧ 0 < longN bs k := by
  unfold bkF at h
  split at h
  · rename_i x
    split at h
    · rename_i hx
      exact ⟨x.toNat, by rw [Int.toNat_of_nonneg hx.1], hx.2⟩
    · cases h
  · cases h
theorem bkF_nat (bs : List Pc) (k : Nat) : (bkF bs (.int .i64 k)).isSome = decide (0 < longN bs k) := by
  simp only [bkF, Int.toNat_natCast]
  by_cases h : 0 < longN bs k <;> simp [h]
theorem longN_ins {bs : List Pc} {e U a n : Nat} (h : Chain e bs U) (hn : longN bs a = 0) (x : Nat) : longN (ins a n bs) x = if x = a then n else longN bs x := by
  induction bs generalizing e with
  | nil =>
    simp only [ins, longN]
    by_cases hx : a = x
    · simp [hx]
    · rw [if_neg hx, if_neg (fun e => hx e.symm)]
  | cons q l ih =>
    rw [longN] at hn
    have hqa : q.1 ≠ a := by
      intro e
      rw [if_pos e] at hn
      have := h.2.1
      omega
    rw [if_neg hqa] at hn
    rw [ins]
    split
    · simp only [longN]
      by_cases hx : a = x
      · simp [hx]
      · rw [if_neg hx, if_neg (fun (e : x = a) => hx e.symm)]
    · simp only [longN]
      rw [ih h.2.2 hn]
      by_cases hx : q.1 = x
      · rw [if_pos hx, if_pos hx, if_neg (by omega)]
      · rw [if_neg hx, if_neg hx]
theorem longN_del (bs : List Pc) (a x : Nat) : longN (del a bs) x = if x = a then 0 else longN bs x := by
  induction bs with
  | nil => simp [del, longN]
  | cons q l ih =>
    rw [del] at ih ⊢
    rw [List.filter_cons]
    split
    · rename_i hq
      simp only [bne_iff_ne, ne_eq] at hq
      simp only [longN]
      by_cases hx : q.1 = x
      · rw [if_pos hx, if_pos hx, if_neg (by omega)]
      · rw [if_neg hx, if_neg hx, ih]
    · rename_i hq
      simp only [bne_iff_ne, ne_eq, Classical.not_not] at hq
      rw [ih]
      simp only [longN]
      by_cases hx : x = a
      · rw [if_pos hx, if_pos hx]
      · rw [if_neg hx, if_neg hx, if_neg (by omega)]
theorem lit_i64_same {kl : Lit} {x : Int} : kl.sameKey (.int .i64 x) = true → kl = .int .i64 x := by
  intro h
  by_cases e : kl = .int .i64 x
  · exact e
  · rw [sameKey_ne e] at h; cases h
theorem updF_bk {bs : List Pc} {e U a n : Nat} (h : Chain e bs U) (hn : longN bs a = 0) (hp : 0 < n) (kl : Lit) : updF (bkF bs) (.int .i64 (a : Int)) (.int .i64 (n : Int)) kl = bkF (ins a n bs) kl := by
  unfold updF
  split
  · rename_i hk
    rw [lit_i64_same hk]
    simp only [bkF, Int.toNat_natCast]
    rw [longN_ins h hn, if_pos rfl, if_pos ⟨by omega, hp⟩]
  · rename_i hk
    unfold bkF
    split
    · rename_i x
      have hxa : 0 ≤ x → x.toNat ≠ a := by
        intro h0 e
        refine hk ?_
        rw [← e, Int.toNat_of_nonneg h0]
        exact WideAt.sameKey_self trivial
      by_cases h0 : 0 ≤ x
      · rw [longN_ins h hn, if_neg (hxa h0)]
      · rw [if_neg (fun h => h0 h.1), if_neg (fun h => h0 h.1)]
    · rfl
theorem delF_bk (bs : List Pc) (a : Nat) (kl : Lit) : delF (bkF bs) (.int .i64 (a : Int)) kl = bkF (del a bs) kl := by
  unfold delF
  split
  · rename_i hk
    rw [lit_i64_same hk]
    simp only [bkF, Int.toNat_natCast]
    rw [longN_del, if_pos rfl, if_neg (by simp)]
  · rename_i hk
    unfold bkF
    split
    · rename_i x
      have hxa : 0 ≤ x → x.toNat ≠ a := by
        intro h0 e
        refine hk ?_
        rw [← e, Int.toNat_of_nonneg h0]
        exact WideAt.sameKey_self trivial
      by_cases h0 : 0 ≤ x
      · rw [longN_del, if_neg (hxa h0)]
      · rw [if_neg (fun h => h0 h.1), if_neg (fun h => h0 h.1)]
    · rfl
theorem chain_ins : ∀ {bs : List Pc} {e U a n : Nat}, Chain e bs U → 1 ≤ n → (∃ g ∈ gaps e bs U, g.1 ≤ a ∧ a + n ≤ g.1 + g.2) → Chain e (ins a n bs) U
  | [], e, U, a, n, h, hn, ⟨g, hg, h1, h2⟩ => by
    simp only [gaps] at hg
    split at hg
    · rw [List.mem_singleton] at hg
      subst hg
      simp only at h1 h2
      exact ⟨h1, hn, by show a + n ≤ U; omega⟩
    · cases hg
  | q :: l, e, U, a, n, h, hn, ⟨g, hg, h1, h2⟩ => by
    simp only [gaps, List.mem_append] at hg
    rw [ins]
    rcases hg with hg | hg
    · split at hg
      · rw [List.mem_singleton] at hg
        subst hg
        simp only at h1 h2
        rw [if_pos (by omega)]
        exact ⟨h1, hn, by show a + n ≤ q.1; omega, h.2.1, h.2.2⟩
      · cases hg
    · have hge : ∀ {l : List Pc} {e U : Nat}, Chain e l U → ∀ g ∈ gaps e l U, e ≤ g.1 := by
        intro l
        induction l with
        | nil =>
          intro e U h g hg
          simp only [gaps] at hg
          split at hg
          · rw [List.mem_singleton] at hg; subst hg; exact Nat.le_refl _
          · cases hg
        | cons q l ih =>
          intro e U h g hg
          simp only [gaps, List.mem_append] at hg
          rcases hg with hg | hg
          · split at hg
            · rw [List.mem_singleton] at hg; subst hg; exact Nat.le_refl _
            · cases hg
          · have := ih h.2.2 g hg
            have := h.1
            omega
      have := hge h.2.2 g hg
      rw [if_neg (by omega)]
      exact ⟨h.1, h.2.1, chain_ins h.2.2 hn ⟨g, hg, h1, h2⟩⟩
theorem chain_del : ∀ {bs : List Pc} {e U a : Nat}, Chain e bs U → Chain e (del a bs) U
  | [], e, U, a, h => h
  | q :: l, e, U, a, h => by
    have ih := chain_del (a := a) h.2.2
    rw [del] at ih ⊢
    rw [List.filter_cons]
    split
    · exact ⟨h.1, h.2.1, ih⟩
    · exact chain_mono ih (by have := h.1; omega)
theorem gaps_mem : ∀ {bs : List Pc} {e U : Nat}, Chain e bs U → ∀ g ∈ gaps e bs U, e ≤ g.1 ∧ 1 ≤ g.2 ∧ g.1 + g.2 ≤ U
  | [], e, U, h, g, hg => by
    simp only [gaps] at hg
    split at hg
    · rw [List.mem_singleton] at hg; subst hg; exact ⟨Nat.le_refl _, by simp only; omega, by simp only; omega⟩
    · cases hg
  | q :: l, e, U, h, g, hg => by
    have h1 := h.1
    have h2 := h.2.1
    have h3 := chain_le h.2.2
    simp only [gaps, List.mem_append] at hg
    rcases hg with hg | hg
    · split at hg
      · rw [List.mem_singleton] at hg; subst hg; exact ⟨Nat.le_refl _, by simp only; omega, by simp only; omega⟩
      · cases hg
    · have := gaps_mem h.2.2 g hg
      omega
theorem chain_own_lt : ∀ {bs : List Pc} {e U i : Nat}, Chain e bs U → i < e → own bs i = 0
  | [], _, _, _, _, _ => rfl
  | q :: l, e, U, i, h, hi => by
    have h1 := h.1
    have h2 := h.2.1
    rw [own, if_neg (by omega)]
    exact chain_own_lt h.2.2 (by omega)
/-- A unit is free just if it is in a gap. -/
theorem own_gap : ∀ {bs : List Pc} {e U i : Nat}, Chain e bs U → e ≤ i → i < U → (own bs i = 0 ↔ ∃ g ∈ gaps e bs U, g.1 ≤ i ∧ i < g.1 + g.2)
  | [], e, U, i, h, hi, hu => by
    simp only [own, gaps, true_iff]
    rw [if_pos (by omega)]
    exact ⟨_, List.mem_singleton_self _, hi, by simp only; omega⟩
  | q :: l, e, U, i, h, hi, hu => by
    have h1 := h.1
    have h2 := h.2.1
    simp only [own, gaps, List.mem_append]
    by_cases hq : i < q.1
    · rw [if_neg (by omega)]
      refine ⟨fun _ => ⟨(e, q.1 - e), .inl ?_, hi, by simp only; omega⟩, fun _ => chain_own_lt h.2.2 (by omega)⟩
      rw [if_pos (by omega)]
      exact List.mem_singleton_self _
    · by_cases hq2 : i < q.1 + q.2
      · rw [if_pos (by omega)]
        constructor
        · intro h0; omega
        · rintro ⟨g, hg | hg, h3, h4⟩
          · split at hg
            · rw [List.mem_singleton] at hg; subst hg; simp only at h3 h4; omega
            · cases hg
          · have := gaps_mem h.2.2 g hg
            omega
      · rw [if_neg (by omega), own_gap h.2.2 (by omega) hu]
        constructor
        · rintro ⟨g, hg, h3⟩
          exact ⟨g, .inr hg, h3⟩
        · rintro ⟨g, hg | hg, h3, h4⟩
          · split at hg
            · rw [List.mem_singleton] at hg; subst hg; simp only at h3 h4; omega
            · cases hg
          · exact ⟨g, hg, h3, h4⟩
/-- Gaps rise, with a unit between them. -/
theorem gaps_rise : ∀ {bs : List Pc} {e U : Nat}, Chain e bs U → (gaps e bs U).Pairwise (fun g g' => g.1 + g.2 < g'.1)
  | [], e, U, h => by
    simp only [gaps]
    split
    · exact List.pairwise_singleton ..
    · exact List.Pairwise.nil
  | q :: l, e, U, h => by
    have h1 := h.1
    have h2 := h.2.1
    simp only [gaps]
    rw [List.pairwise_append]
    refine ⟨?_, gaps_rise h.2.2, ?_⟩
    · split
      · exact List.pairwise_singleton ..
      · exact List.Pairwise.nil
    · intro g hg g' hg'
      have := gaps_mem h.2.2 g' hg'
      split at hg
      · rw [List.mem_singleton] at hg; subst hg; simp only; omega
      · cases hg
/-- A run of free units lies in one gap. -/
theorem run_gap {bs : List Pc} {e U a : Nat} (h : Chain e bs U) (ha : e ≤ a) : ∀ n, 1 ≤ n → a + n ≤ U → ((∀ i, a ≤ i → i < a + n → own bs i = 0) ↔ ∃ g ∈ gaps e bs U, g.1 ≤ a ∧ a + n ≤ g.1 + g.2) := by
  intro n hn hu
  constructor
  · intro hf
    obtain ⟨g, hg, h1, h2⟩ := (own_gap h ha (by omega)).1 (hf a (Nat.le_refl _) (by omega))
    refine ⟨g, hg, h1, ?_⟩
    -- the unit behind a gap is none's but a block's
    by_cases hend : a + n ≤ g.1 + g.2
    · exact hend
    · have hge := gaps_mem h g hg
      have h0 := hf (g.1 + g.2) (by omega) (by omega)
      obtain ⟨g', hg', h3, h4⟩ := (own_gap h (by omega) (by omega)).1 h0
      have hp := gaps_rise h
      rcases Nat.lt_trichotomy g.1 g'.1 with hlt | heq | hgt
      · obtain ⟨i, hi, e1⟩ := List.getElem_of_mem hg
        obtain ⟨j, hj, e2⟩ := List.getElem_of_mem hg'
        rcases Nat.lt_trichotomy i j with hij | rfl | hij
        · have := List.pairwise_iff_getElem.1 hp i j hi hj hij
          rw [e1, e2] at this
          omega
        · rw [e1] at e2; subst e2; omega
        · have := List.pairwise_iff_getElem.1 hp j i hj hi hij
          rw [e1, e2] at this
          omega
      · obtain ⟨i, hi, e1⟩ := List.getElem_of_mem hg
        obtain ⟨j, hj, e2⟩ := List.getElem_of_mem hg'
        rcases Nat.lt_trichotomy i j with hij | rfl | hij
        · have := List.pairwise_iff_getElem.1 hp i j hi hj hij
          rw [e1, e2] at this
          omega
        · rw [e1] at e2; subst e2; omega
        · have := List.pairwise_iff_getElem.1 hp j i hj hi hij
          rw [e1, e2] at this
          omega
      · obtain ⟨i, hi, e1⟩ := List.getElem_of_mem hg
        obtain ⟨j, hj, e2⟩ := List.getElem_of_mem hg'
        rcases Nat.lt_trichotomy i j with hij | rfl | hij
        · have := List.pairwise_iff_getElem.1 hp i j hi hj hij
          rw [e1, e2] at this
          omega
        · rw [e1] at e2; subst e2; omega
        · have := List.pairwise_iff_getElem.1 hp j i hj hi hij
          rw [e1, e2] at this
          omega
  · rintro ⟨g, hg, h1, h2⟩ i h3 h4
    exact (own_gap h (by omega) (by omega)).2 ⟨g, hg, by omega, by omega⟩
theorem own_start {bs : List Pc} {e U : Nat} (h : Chain e bs U) {q : Pc} {a : Nat} (hq : q ∈ bs) (ha : q.1 = a) : own bs a ≠ 0 := by
  subst ha
  induction bs generalizing e with
  | nil => cases hq
  | cons p l ih =>
    rw [own]
    split
    · simp
    · rcases List.mem_cons.1 hq with rfl | hm
      · have := h.2.1
        rename_i hn
        exact absurd ⟨Nat.le_refl _, by omega⟩ hn
      · exact ih h.2.2 hm
end Go.Proofs.Ytgendnoafemgpaa.Hand
namespace Go.Proofs.Ytgendnoafemgpaa.Hand
open Go.RowKit
set_option linter.unusedVariables false
theorem room_none {F : Fence} (hd : F.depth = none) (k : Nat) : F.room k := fun d h => by rw [hd] at h; cases h
theorem yield_any {m : Nat} (m' : Nat) {P : Program} {l : Nat} {args : Array Value} {W : World} {R : Ending → World → Prop} (h : YieldAt Fence.wide m P l args W R) : YieldAt Fence.wide m' P l args W R := by
  obtain ⟨fn, tmps, assign, body, hy, hR⟩ := h
  exact ⟨fn, tmps, assign, body, hy, hR.1, fun c cs _ => hR.2 c cs (room_none rfl _)⟩
/-- What an iterator of its own may do between two rounds, from block N on. -/
structure ItR (G : Nat → World → World → Prop) : Prop where
  mono : ∀ {N M : Nat} {A B : World}, N ≤ M → G M A B → G N A B
  below : ∀ {N : Nat} {A B : World}, N ≤ A.heap.size → G N A B → Below N A B
  grow : ∀ {N : Nat} {A B : World}, N ≤ A.heap.size → Below A.heap.size A B → G N A B
  put : ∀ {N : Nat} {A : World} {l : Nat} {o o' : Obj}, N ≤ l → A.heap[l]? = some o → o.isCells = false → G N A (A.putObj l o')
/-- It writes no cells. -/
def ItG (N : Nat) (A B : World) : Prop := ∃ row, A.grownBy B row ∧ ∀ r, row = some r → N ≤ r ∧ ∃ o : Obj, A.heap[r]? = some o ∧ o.isCells = false
theorem below_grownBy {A B : World} (h : Below A.heap.size A B) : A.grownBy B none := ⟨h.os, h.tape, h.output, h.size, fun b hb _ => h.block b hb⟩
theorem itG : ItR ItG where
  mono := fun h ⟨row, hg, hr⟩ => ⟨row, hg, fun r e => ⟨Nat.le_trans h (hr r e).1, (hr r e).2⟩⟩
  below := fun h ⟨row, hg, hr⟩ => ⟨hg.os, hg.tape, hg.output, hg.size, fun b hb => hg.block b (Nat.lt_of_lt_of_le hb h) (fun e => absurd (hr b e.symm).1 (by omega))⟩
  grow := fun _ h => ⟨none, below_grownBy h, fun r e => by cases e⟩
  put := fun h h1 h2 => ⟨some _, grownBy_putObj' _ _ _, fun r e => by cases e; exact ⟨h, _, h1, h2⟩⟩
/-- Whatever it does is from block N on. -/
def ItB (N : Nat) (A B : World) : Prop := Below N A B
theorem itB : ItR ItB where
  mono := fun h k => Below.mono k h
  below := fun _ k => k
  grow := fun h k => Below.mono k h
  put := fun h h1 h2 => (Below.refl _ _).grown (grownBy_putObj' _ _ _) (by have := (Array.getElem?_eq_some_iff.1 h1).1; omega) (fun k e => by cases e; exact h)
theorem ItG.itB {N : Nat} {A B : World} (hN : N ≤ A.heap.size) (h : ItG N A B) : ItB N A B := itG.below hN h
/-- What a round leaves as it was: the blocks from N to M, and those of S. -/
def KeepI (N M : Nat) (S : Nat → Prop) (W W' : World) : Prop := W.heap.size ≤ W'.heap.size ∧ ∀ b, b < W.heap.size → (N ≤ b ∧ b < M ∨ S b) → W'.heap[b]? = W.heap[b]?
theorem KeepI.refl (N M : Nat) (S : Nat → Prop) (W : World) : KeepI N M S W W := ⟨Nat.le_refl _, fun _ _ _ => rfl⟩
theorem KeepI.trans {N M : Nat} {S : Nat → Prop} {A B C : World} (h : KeepI N M S A B) (k : KeepI N M S B C) : KeepI N M S A C :=
  ⟨Nat.le_trans h.1 k.1, fun b hb hs => (k.2 b (Nat.lt_of_lt_of_le hb h.1) hs).trans (h.2 b hb hs)⟩
theorem KeepI.mono {N M N' M' : Nat} {S S' : Nat → Prop} {A B : World} (h : KeepI N M S A B) (hn : N ≤ N') (hm : M' ≤ M) (hs : ∀ b, S' b → N ≤ b ∧ b < M ∨ S b) : KeepI N' M' S' A B :=
  ⟨h.1, fun b hb hc => h.2 b hb (by rcases hc with hc | hc; exact .inl ⟨by omega, by omega⟩; exact hs b hc)⟩
theorem KeepI.of_fr {T : Nat → Prop} {N M : Nat} {S : Nat → Prop} {A B : World} (h : Fr T A B) (hs : ∀ b, b < A.heap.size → T b → ¬ (N ≤ b ∧ b < M ∨ S b)) : KeepI N M S A B :=
  ⟨h.size, fun b hb hc => h.block b hb (fun ht => hs b hb ht hc)⟩
theorem KeepI.of_below {N M : Nat} {S : Nat → Prop} {A B : World} (h : Below A.heap.size A B) : KeepI N M S A B := ⟨h.size, fun b hb _ => h.block b hb⟩
theorem KeepI.put {N M : Nat} {S : Nat → Prop} {W : World} {l : Nat} (o' : Obj) (hl : ¬ (N ≤ l ∧ l < M ∨ S l)) : KeepI N M S W (W.putObj l o') :=
  ⟨by simp, fun b _ hc => World.putObj_heap_other (fun e => hl (by rw [← e]; exact hc))⟩
/-- The contract of an iterator that tells the elements Es one behind the other, up to the round that says no; S: the blocks that it reads. -/
def SeqL (G : Nat → World → World → Prop) (P : Program) (gf : Nat) (lb : Array Value) (Es : List (Array Value)) (S : Nat → Prop) (w0 : World) : Prop :=
  ∀ (l : Nat) (J0 : World → Prop) (J Jx : Nat → Nat → World → Prop) (W : World), Below w0.heap.size w0 W →
    (∀ A B, W.heap.size ≤ A.heap.size → J0 A → G W.heap.size A B → J0 B) → (∀ M k A B, W.heap.size ≤ A.heap.size → J M k A → G W.heap.size A B → J M k B) → (∀ M k A B, W.heap.size ≤ A.heap.size → Jx M k A → G W.heap.size A B → Jx M k B) →
    (∀ M W1, W.heap.size ≤ M → M ≤ W1.heap.size → J0 W1 → J M 0 W1) →
    (∀ M k W1 e, Es[k]? = some e → W.heap.size ≤ M → M ≤ W1.heap.size → J M k W1 → YieldAt Fence.wide 0 P l e W1 fun e W' =>
      (e = .returned (.bool true) ∧ J M (k + 1) W' ∧ KeepI W.heap.size M S W1 W') ∨ (e = .returned (.bool false) ∧ Jx M k W' ∧ KeepI W.heap.size M (fun _ => False) W1 W')) →
    J0 W → Calls P gf (#[.func (.yield l) #[] #[]] ++ lb) W fun e W' => (∃ v, e = .returned v) ∧
      ((∃ M, W.heap.size ≤ M ∧ M ≤ W'.heap.size ∧ J M Es.length W') ∨ ∃ M k, k < Es.length ∧ W.heap.size ≤ M ∧ W.heap.size ≤ W'.heap.size ∧ Jx M k W')
theorem SeqL.grown {G : Nat → World → World → Prop} {P : Program} {gf : Nat} {lb : Array Value} {Es : List (Array Value)} {S : Nat → Prop} {w0 w1 : World} (h : SeqL G P gf lb Es S w0) (hb : Below w0.heap.size w0 w1) : SeqL G P gf lb Es S w1 :=
  fun l J0 J Jx W hW => h l J0 J Jx W (hb.trans (hW.mono hb.size))
/-- What a round's body leaves. -/
def roundL (B M : Nat) (S : Nat → Prop) (I : Nat → Nat → World → Prop) (Ix : Code → Nat → Nat → World → Prop) (k : Nat) (W : World) : Exit → Act → World → Prop
  | .normal, _, W' => KeepI B M S W W' ∧ I M (k + 1) W'
  | .ret, _, W' => KeepI B M (fun _ => False) W W' ∧ Ix .ret M k W'
  | .exit id, _, W' => KeepI B M (fun _ => False) W W' ∧ Ix (.exit id) M k W'
  | .goto t, _, W' => KeepI B M (fun _ => False) W W' ∧ Ix (.goto t) M k W'
  | _, _, _ => False
section
variable {P : Program} {n : Nat}
set_option maxHeartbeats 1000000 in
theorem range_list {G : Nat → World → World → Prop} (g : ItR G) {g0 : Operand} {ps : Array Tmp} {assign body : Code} {Q : Exit → Act → World → Prop} {a : Act} {w w0 : World} {gf : Nat} {lb : Array Value} (hg : a.eval g0 = .func (.func gf) #[] lb)
    (eg : ∀ args w, (callFunc gf args).run P w = .ok (.enter gf args) w) {Es : List (Array Value)} {S : Nat → Prop} (hseq : SeqL G P gf lb Es S w0) (hb0 : Below w0.heap.size w0 w) (hS : ∀ b, S b → b < w.heap.size) (hps : ∀ (k : Nat) (e : Array Value), Es[k]? = some e → e.size = ps.size)
    (I0 : World → Prop) (I : Nat → Nat → World → Prop) (Ix : Code → Nat → Nat → World → Prop)
    (hI0 : ∀ A B, w.heap.size ≤ A.heap.size → I0 A → G w.heap.size A B → I0 B) (hI : ∀ M k A B, w.heap.size ≤ A.heap.size → I M k A → G w.heap.size A B → I M k B) (hIx : ∀ c M k A B, w.heap.size ≤ A.heap.size → Ix c M k A → G w.heap.size A B → Ix c M k B)
    (hstart : ∀ M W, w.heap.size + 2 ≤ M → M ≤ W.heap.size → I0 W → I M 0 W) (h0 : I0 w) (a₁ : Nat → Act)
    (hassign : ∀ (l k : Nat) (e : Array Value) (W : World) (K : Act → World → Prop), Es[k]? = some e → K (a₁ k) W → assign.wpIn (Fence.wide.inRound l) (n - 1 - 1) P (Exit.then K (fun _ _ _ => False)) { tmps := (ps.zip e).foldl (fun t (p, v) => t.setIfInBounds p v) a.tmps, defers := [] } W)
    (hbody : ∀ (l M k : Nat) (e : Array Value) (W : World), Es[k]? = some e → w.heap.size + 2 ≤ M → M ≤ W.heap.size → I M k W → body.wpIn (Fence.wide.inRound l) (n - 1 - 1) P (roundL w.heap.size M S I Ix k W) (a₁ k) W)
    (hdone : ∀ (M : Nat) (W : World), w.heap.size + 2 ≤ M → M ≤ W.heap.size → I M Es.length W → W.heap[w.heap.size]? = some (.deferred (some [])) → Q .normal { a with defers := { target := .collected w.heap.size, args := #[] } :: a.defers } W)
    (hstop : ∀ (c : Code) (M k : Nat) (W : World), k < Es.length → w.heap.size + 2 ≤ M → w.heap.size + 2 ≤ W.heap.size → Ix c M k W → W.heap[w.heap.size]? = some (.deferred (some [])) → c.wpIn Fence.wide n P Q { a with defers := { target := .collected w.heap.size, args := #[] } :: a.defers } W) :
    (Code.rangeFunc g0 ps assign body).wpIn Fence.wide n P Q a w := by
  refine wpIn_rangeFunc ?_
  intro fn hfn
  obtain ⟨rec, hrec⟩ : ∃ rec : LoopState → Option Code → Loop, rec = fun st pe => { state := st, pending := pe, fn, tmps := a.tmps, params := ps, assign, body, defers := w.heap.size } := ⟨_, rfl⟩
  obtain ⟨W1, hW1⟩ : ∃ W1, (w.alloc (.deferred (some []))).alloc (.loop (rec .ready none)) = W1 := ⟨_, rfl⟩
  have hL1 : W1.heap[w.heap.size + 1]? = some (.loop (rec .ready none)) := by
    rw [← hW1]; have := World.alloc_heap_new (w.alloc (.deferred (some []))) (.loop (rec .ready none)); rwa [World.size_alloc] at this
  have hK1 : W1.heap[w.heap.size]? = some (.deferred (some [])) := by
    rw [← hW1]; exact (Below.heap_alloc _ _ _ (by simp)).trans (World.alloc_heap_new w _)
  have hbw : Below w.heap.size w W1 := by rw [← hW1]; exact ((Below.refl _ w).alloc (Nat.le_refl _) _).alloc (by simp) _
  have hs1 : W1.heap.size = w.heap.size + 2 := by rw [← hW1]; simp
  have hI1 : I0 W1 := hI0 _ _ (Nat.le_refl _) h0 (g.grow (Nat.le_refl _) hbw)
  have hb1 : Below w0.heap.size w0 W1 := hb0.trans (hbw.mono hb0.size)
  refine ⟨w.heap.size + 1, [{ target := .collected w.heap.size, args := #[] }], W1, { target := .fn (.func gf) lb, args := #[.func (.yield (w.heap.size + 1)) #[] #[]] }, W1, gf,
    #[.func (.yield (w.heap.size + 1)) #[] #[]] ++ lb, W1, ?_, ?_, fun _ _ => trivial, ?_, fun h => absurd h (by simp [Fence.wide]), ?_⟩
  · rw [← hW1, hrec]; exact run_enterLoop_outer _ _ _ _ _
  · simp only [resolve, hg]
    simp [go_sem]
  · simp [invoke, go_sem, eg]
  refine callsIn_wide.2 ?_
  have hbel : ∀ {A B : World}, w.heap.size + 2 ≤ A.heap.size → G W1.heap.size A B → ∀ b, b < w.heap.size + 2 → B.heap[b]? = A.heap[b]? := fun h hg b hb => (g.below (by omega) hg).block b (by omega)
  have hup : ∀ {A B : World}, G W1.heap.size A B → G w.heap.size A B := fun hg => g.mono (by omega) hg
  refine (hseq (w.heap.size + 1)
    (fun W => I0 W ∧ W.heap[w.heap.size + 1]? = some (.loop (rec .ready none)) ∧ W.heap[w.heap.size]? = some (.deferred (some [])))
    (fun M k W => I M k W ∧ W.heap[w.heap.size + 1]? = some (.loop (rec .ready none)) ∧ W.heap[w.heap.size]? = some (.deferred (some [])))
    (fun M k W => ∃ c, Ix c M k W ∧ W.heap[w.heap.size + 1]? = some (.loop (rec .done (some c))) ∧ W.heap[w.heap.size]? = some (.deferred (some [])))
    W1 hb1 ?_ ?_ ?_ ?_ ?_ ⟨hI1, hL1, hK1⟩).mono ?_
  · rintro A B hA ⟨hi, hl, hk⟩ hg
    exact ⟨hI0 A B (by omega) hi (hup hg), (hbel (by omega) hg _ (by omega)).trans hl, (hbel (by omega) hg _ (by omega)).trans hk⟩
  · rintro M k A B hA ⟨hi, hl, hk⟩ hg
    exact ⟨hI M k A B (by omega) hi (hup hg), (hbel (by omega) hg _ (by omega)).trans hl, (hbel (by omega) hg _ (by omega)).trans hk⟩
  · rintro M k A B hA ⟨c, hi, hl, hk⟩ hg
    exact ⟨c, hIx c M k A B (by omega) hi (hup hg), (hbel (by omega) hg _ (by omega)).trans hl, (hbel (by omega) hg _ (by omega)).trans hk⟩
  · rintro M W hM hMW ⟨hi, hl, hk⟩
    exact ⟨hstart M W (by omega) hMW hi, hl, hk⟩
  · rintro M k W e hE hM hMW ⟨hi, hl, hk⟩
    have hlt : w.heap.size + 1 < W.heap.size := (Array.getElem?_eq_some_iff.1 hl).1
    have hy := run_yield (P := P) (args := e) hl (by rw [hrec]; exact hps k e hE)
    rw [hrec] at hy
    refine yield_any (m := n - 1 - 1) 0 ⟨fn, _, assign, body, hy, roundIn_of_wpIn hfn (hassign _ k e W _ hE ⟨_, run_beginRound hl (by rw [hrec]), ?_⟩)⟩
    obtain ⟨V, hV⟩ : ∃ V, V = W.putObj (w.heap.size + 1) (.loop { rec .ready none with state := .busy }) := ⟨_, rfl⟩
    rw [← hV]
    have v1 : V.heap[w.heap.size + 1]? = some (.loop { rec .ready none with state := .busy }) := by rw [hV]; exact World.putObj_heap_same hlt
    have v2 : V.heap[w.heap.size]? = some (.deferred (some [])) := by rw [hV]; exact (World.putObj_heap_other (by omega)).trans hk
    have v3 : V.heap.size = W.heap.size := by rw [hV]; simp
    have nS : ¬ (w.heap.size + 2 ≤ w.heap.size + 1 ∧ w.heap.size + 1 < M ∨ S (w.heap.size + 1)) := fun h => by
      rcases h with h | h
      · omega
      · have := hS _ h; omega
    have v4 : KeepI (w.heap.size + 2) M S W V := by rw [hV]; exact KeepI.put _ nS
    have v5 : I M k V := by rw [hV]; exact hI M k _ _ (by omega) hi (g.put (by omega) hl rfl)
    refine wpIn_mono (hbody _ M k e V hE (by omega) (by omega) v5) ?_
    have fin : ∀ (jump : Option Code) (W3 : World), KeepI w.heap.size (w.heap.size + 2) (fun _ => False) V W3 →
        (Instr.endRound (w.heap.size + 1) jump).run P W3 = .ok (.bool jump.isNone) (W3.putObj (w.heap.size + 1) (.loop (rec (if jump.isNone then .ready else .done) jump))) ∧
        W3.heap[w.heap.size + 1]? = some (.loop { rec .ready none with state := .busy }) ∧
        (W3.putObj (w.heap.size + 1) (.loop (rec (if jump.isNone then .ready else .done) jump))).heap[w.heap.size + 1]? = some (.loop (rec (if jump.isNone then .ready else .done) jump)) ∧
        (W3.putObj (w.heap.size + 1) (.loop (rec (if jump.isNone then .ready else .done) jump))).heap[w.heap.size]? = some (.deferred (some [])) := fun jump W3 hk3 => by
      have hl3 := (hk3.2 _ (by omega) (.inl ⟨by omega, by omega⟩)).trans v1
      have hk4 := (hk3.2 _ (by omega) (.inl ⟨by omega, by omega⟩)).trans v2
      have := run_endRound (P := P) jump hl3
      rw [hrec] at this ⊢
      exact ⟨this, by rw [hrec] at hl3; exact hl3, World.putObj_heap_same (Array.getElem?_eq_some_iff.1 hl3).1, (World.putObj_heap_other (by omega)).trans hk4⟩
    rintro e3 a3 W3 hp
    cases e3 with
    | normal =>
      obtain ⟨hk3, hi3⟩ := hp
      obtain ⟨hr, hl3, hl4, hk4⟩ := fin none W3 (hk3.mono (Nat.le_refl _) (by omega) (fun b h => h.elim))
      refine ⟨_, _, hr, .inl ⟨rfl, ⟨hI M (k + 1) _ _ (by have := hk3.1; omega) hi3 (g.put (by omega) hl3 rfl), hl4, hk4⟩, ?_⟩⟩
      rw [hs1]
      exact (v4.trans (hk3.mono (by omega) (Nat.le_refl _) (fun b h => .inr h))).trans (KeepI.put _ nS)
    | ret =>
      obtain ⟨hk3, hi3⟩ := hp
      obtain ⟨hr, hl3, hl4, hk4⟩ := fin (some .ret) W3 (hk3.mono (Nat.le_refl _) (by omega) (fun b h => h.elim))
      refine ⟨_, _, hr, .inr ⟨rfl, ⟨.ret, hIx _ M k _ _ (by have := hk3.1; omega) hi3 (g.put (by omega) hl3 rfl), hl4, hk4⟩, ?_⟩⟩
      rw [hs1]
      exact ((v4.mono (Nat.le_refl _) (Nat.le_refl _) (fun b h => h.elim)).trans (hk3.mono (by omega) (Nat.le_refl _) (fun b h => .inr h))).trans (KeepI.put _ (fun h => by rcases h with h | h; omega; exact h))
    | exit id =>
      obtain ⟨hk3, hi3⟩ := hp
      obtain ⟨hr, hl3, hl4, hk4⟩ := fin (some (.exit id)) W3 (hk3.mono (Nat.le_refl _) (by omega) (fun b h => h.elim))
      refine ⟨_, _, hr, .inr ⟨rfl, ⟨.exit id, hIx _ M k _ _ (by have := hk3.1; omega) hi3 (g.put (by omega) hl3 rfl), hl4, hk4⟩, ?_⟩⟩
      rw [hs1]
      exact ((v4.mono (Nat.le_refl _) (Nat.le_refl _) (fun b h => h.elim)).trans (hk3.mono (by omega) (Nat.le_refl _) (fun b h => .inr h))).trans (KeepI.put _ (fun h => by rcases h with h | h; omega; exact h))
    | goto t =>
      obtain ⟨hk3, hi3⟩ := hp
      obtain ⟨hr, hl3, hl4, hk4⟩ := fin (some (.goto t)) W3 (hk3.mono (Nat.le_refl _) (by omega) (fun b h => h.elim))
      refine ⟨_, _, hr, .inr ⟨rfl, ⟨.goto t, hIx _ M k _ _ (by have := hk3.1; omega) hi3 (g.put (by omega) hl3 rfl), hl4, hk4⟩, ?_⟩⟩
      rw [hs1]
      exact ((v4.mono (Nat.le_refl _) (Nat.le_refl _) (fun b h => h.elim)).trans (hk3.mono (by omega) (Nat.le_refl _) (fun b h => .inr h))).trans (KeepI.put _ (fun h => by rcases h with h | h; omega; exact h))
    | panic ch => exact hp.elim
    | outgrown => exact hp.elim
  · rintro e W2 ⟨⟨v, rfl⟩, (⟨M, hM, hMW, hi, hl, hk⟩ | ⟨M, k, hk0, hM, hW2, c, hi, hl, hk⟩)⟩
    · exact ⟨none, _, by have := run_endLoop (P := P) hl (by rw [hrec]; simp); rw [hrec] at this; exact this, hdone M _ (by omega) (by simp; omega) (hI M _ _ _ (by omega) hi (g.put (by omega) hl rfl)) ((World.putObj_heap_other (by omega)).trans hk)⟩
    · exact ⟨some c, _, by have := run_endLoop (P := P) hl (by rw [hrec]; simp); rw [hrec] at this; exact this, hstop c M k _ hk0 (by omega) (by simp; omega) (hIx c M k _ _ (by omega) hi (g.put (by omega) hl rfl)) ((World.putObj_heap_other (by omega)).trans hk)⟩
theorem range_listA {α : Type} {G : Nat → World → World → Prop} (g : ItR G) {g0 : Operand} {ps : Array Tmp} {assign body : Code} {Q : Exit → Act → World → Prop} {a : Act} {w w0 : World} {gf : Nat} {lb : Array Value} (hg : a.eval g0 = .func (.func gf) #[] lb)
    (eg : ∀ args w, (callFunc gf args).run P w = .ok (.enter gf args) w) {xs : List α} {enc : α → Array Value} {S : Nat → Prop} (hseq : SeqL G P gf lb (xs.map enc) S w0) (hb0 : Below w0.heap.size w0 w) (hS : ∀ b, S b → b < w.heap.size) (hps : ∀ x, (enc x).size = ps.size)
    (I0 : World → Prop) (I : Nat → Nat → World → Prop) (Ix : Code → Nat → Nat → World → Prop)
    (hI0 : ∀ A B, w.heap.size ≤ A.heap.size → I0 A → G w.heap.size A B → I0 B) (hI : ∀ M k A B, w.heap.size ≤ A.heap.size → I M k A → G w.heap.size A B → I M k B) (hIx : ∀ c M k A B, w.heap.size ≤ A.heap.size → Ix c M k A → G w.heap.size A B → Ix c M k B)
    (hstart : ∀ M W, w.heap.size + 2 ≤ M → M ≤ W.heap.size → I0 W → I M 0 W) (h0 : I0 w) (a₁ : α → Act)
    (hassign : ∀ (l : Nat) (x : α) (W : World) (K : Act → World → Prop), K (a₁ x) W → assign.wpIn (Fence.wide.inRound l) (n - 1 - 1) P (Exit.then K (fun _ _ _ => False)) { tmps := (ps.zip (enc x)).foldl (fun t (p, v) => t.setIfInBounds p v) a.tmps, defers := [] } W)
    (hbody : ∀ (l M k : Nat) (x : α) (W : World), xs[k]? = some x → w.heap.size + 2 ≤ M → M ≤ W.heap.size → I M k W → body.wpIn (Fence.wide.inRound l) (n - 1 - 1) P (roundL w.heap.size M S I Ix k W) (a₁ x) W)
    (hdone : ∀ (M : Nat) (W : World), w.heap.size + 2 ≤ M → M ≤ W.heap.size → I M xs.length W → W.heap[w.heap.size]? = some (.deferred (some [])) → Q .normal { a with defers := { target := .collected w.heap.size, args := #[] } :: a.defers } W)
    (hstop : ∀ (c : Code) (M k : Nat) (W : World), k < xs.length → w.heap.size + 2 ≤ M → w.heap.size + 2 ≤ W.heap.size → Ix c M k W → W.heap[w.heap.size]? = some (.deferred (some [])) → c.wpIn Fence.wide n P Q { a with defers := { target := .collected w.heap.size, args := #[] } :: a.defers } W) :
    (Code.rangeFunc g0 ps assign body).wpIn Fence.wide n P Q a w := by
  refine range_list g hg eg hseq hb0 hS (fun k e he => ?_) I0 I Ix hI0 hI hIx hstart h0 (fun k => match xs[k]? with | some x => a₁ x | none => a) ?_ ?_ ?_ ?_
  · rw [List.getElem?_map, Option.map_eq_some_iff] at he
    obtain ⟨x, _, rfl⟩ := he
    exact hps x
  · intro l k e W K he hK
    rw [List.getElem?_map, Option.map_eq_some_iff] at he
    obtain ⟨x, hx, rfl⟩ := he
    simp only [hx] at hK
    exact hassign l x W K hK
  · intro l M k e W he hM hMW hI
    rw [List.getElem?_map, Option.map_eq_some_iff] at he
    obtain ⟨x, hx, rfl⟩ := he
    simp only [hx]
    exact hbody l M k x W hx hM hMW hI
  · intro M W h1 h2 h3 h4
    exact hdone M W h1 h2 (by rw [List.length_map] at h3; exact h3) h4
  · intro c M k W h1 h2 h3 h4 h5
    exact hstop c M k W (by rw [List.length_map] at h1; exact h1) h2 h3 h4 h5
end
end Go.Proofs.Ytgendnoafemgpaa.Hand
namespace Go.Proofs.Ytgendnoafemgpaa.Hand
attribute [local go_sem] Oper.semAt_some
open Go.RowKit Go.Maps Go.Sort Go.Shelf Go.Proofs.YtgendnoafemgpaaW.PrintWords
set_option linter.unusedVariables false
set_option linter.unusedSimpArgs false
theorem law_intB : Keyed Try.prog 3 := int_keyed Try.underlying3
structure HasB (w : World) (p s U : Nat) (bs : List Pc) : Prop where
  ptr : w.heap[p]? = some (.cells #[.int .i64 (U : Int), .map (some s)] 58 (0, 0))
  map : MapF Try.prog 3 w s (bkF bs)
  ok : Chain 0 bs U
  max : U ≤ 1024
section
variable {w w1 : World} {p s U : Nat} {bs : List Pc}
theorem HasB.p_lt (h : HasB w p s U bs) : p < w.heap.size := blk_lt h.ptr
theorem HasB.s_lt (h : HasB w p s U bs) : s < w.heap.size := h.map.lt
theorem HasB.ne (h : HasB w p s U bs) : p ≠ s := h.map.ne_cells h.ptr
theorem HasB.same (h : HasB w p s U bs) (hp : w1.heap[p]? = w.heap[p]?) (hs : w1.heap[s]? = w.heap[s]?) : HasB w1 p s U bs := ⟨hp.trans h.ptr, h.map.same hs, h.ok, h.max⟩
theorem HasB.below (h : HasB w p s U bs) (hb : Below w.heap.size w w1) : HasB w1 p s U bs := h.same (hb.block p h.p_lt) (hb.block s h.s_lt)
theorem HasB.fr {T : Nat → Prop} (h : HasB w p s U bs) (hf : Fr T w w1) (hp : ¬ T p) (hs : ¬ T s) : HasB w1 p s U bs := h.same (hf.block p h.p_lt hp) (hf.block s h.s_lt hs)
theorem HasB.c0 (h : HasB w p s U bs) : w.cell? ⟨p, 0, none⟩ = some (.int .i64 (U : Int)) := blk_cell h.ptr rfl
theorem HasB.c1 (h : HasB w p s U bs) : w.cell? ⟨p, 1, none⟩ = some (.map (some s)) := blk_cell h.ptr rfl
end
theorem Chain.le_len {bs : List Pc} {e U : Nat} (h : Chain e bs U) : bs.length ≤ U - e := by
  induction bs generalizing e with
  | nil => simp
  | cons q l ih =>
    have := ih h.2.2
    have h1 := h.1
    have h2 := h.2.1
    have h3 := chain_le h.2.2
    simp only [List.length_cons]
    omega
theorem Chain.mem_longN {bs : List Pc} {e U k : Nat} (h : Chain e bs U) (hk : 0 < longN bs k) : k < U := by
  obtain ⟨q, hq, rfl⟩ := (longN_pos h).1 hk
  have := chain_mem h q hq
  omega
theorem room_int2 {g : Lit → Option Value} (n : Nat) (h : ∀ kl, (g kl).isSome = true → ∃ k : Nat, k < n ∧ kl = .int .i64 k) : RoomF g n := by
  refine ⟨(List.range n).map (fun (k : Nat) => Lit.int .i64 k), by simp, fun kl hk => ?_⟩
  obtain ⟨k, hk1, rfl⟩ := h kl hk
  exact List.mem_map.2 ⟨k, List.mem_range.2 hk1, rfl⟩
theorem bk_room {bs : List Pc} {U : Nat} (h : Chain 0 bs U) : RoomF (bkF bs) U := room_int2 U (fun kl hk => by
  obtain ⟨k, rfl, hs⟩ := bkF_some hk
  exact ⟨k, h.mem_longN hs, rfl⟩)
def startsI (bs : List Pc) : List Int := bs.map fun q => (q.1 : Int)
theorem chain_starts {bs : List Pc} {e U : Nat} (h : Chain e bs U) : (startsI bs).Pairwise (fun a b => a < b) := by
  induction bs generalizing e with
  | nil => exact List.Pairwise.nil
  | cons q l ih =>
    rw [startsI, List.map_cons, List.pairwise_cons]
    refine ⟨?_, ih h.2.2⟩
    intro x hx
    obtain ⟨q', hq', rfl⟩ := List.mem_map.1 hx
    have := chain_mem h.2.2 q' hq'
    have := h.2.1
    omega
theorem starts_mem {bs : List Pc} {U : Nat} (h : Chain 0 bs U) (x : Int) : x ∈ startsI bs ↔ (bkF bs (.int .i64 x)).isSome = true := by
  rw [startsI, List.mem_map]
  constructor
  · rintro ⟨q, hq, rfl⟩
    rw [bkF_nat, decide_eq_true_eq]
    exact (longN_pos h).2 ⟨q, hq, rfl⟩
  · intro hx
    obtain ⟨k, e, hs⟩ := bkF_some hx
    simp only [Lit.int.injEq, true_and] at e
    obtain ⟨q, hq, hqk⟩ := (longN_pos h).1 hs
    exact ⟨q, hq, by rw [e, hqk]⟩
theorem starts_sorted {bs : List Pc} {U : Nat} {D : DataW Value} {w : World} {b n : Nat} (h : Chain 0 bs U) (hown : w.ownsMap Try.prog 3 heldR b n D) (hf : Fits D (bkF bs)) {ss : List Int} (hp : ss.Perm (intKeys D)) : ss.mergeSort (fun x y => decide (x ≤ y)) = startsI bs ∧ ss.length = (startsI bs).length := by
  obtain ⟨es, hD, hpw, _⟩ := hown.entries law_intB
  obtain ⟨es', hD', hko⟩ := hown.keysOf
  obtain rfl : es = es' := by rw [hD] at hD'; simpa using hD'
  subst hD
  have hnd : (startsI bs).Nodup := (chain_starts h).imp (fun h => by omega)
  have h1 : (startsI bs).Perm (intKeys (.map es)) := perm_intKeys hpw (fun p hp => by
    obtain ⟨key, hk⟩ := hko p hp
    obtain ⟨x, _, e, _⟩ := Maps.keyOf_int_inv Try.underlying3 hk
    exact ⟨x, e⟩) hnd (fun x => by rw [starts_mem h x, (hf _).1])
  have h2 := hp.trans h1.symm
  refine ⟨?_, h2.length_eq⟩
  rw [mergeSort_of_perm_i h2]
  exact List.mergeSort_of_pairwise ((chain_starts h).imp (fun h => by simp only [decide_eq_true_eq]; omega))
theorem sorts_intB (m : Nat) : AnyZI.SortsIn Try.prog Try.sortedA_ren Fence.wide m :=
  ⟨fun blk off cap ss W hH hblk hsz => callsIn_wide.2 (AnyM.slices_Sort_int Try.sortA blk off cap ss W hH hblk hsz),
   fun p cap W => callsIn_wide.2 (AnyM.slices_Sort_int_none Try.sortA p cap W)⟩
def encP (q : Pc) : Array Value := #[.int .i64 (q.1 : Int), .int .i64 (q.2 : Int)]
theorem R_keep {w w1 : World} {e base : Nat} {ok : Nat → Prop} {v : Value} {xs : List Int} (h : Kd.R (Kd.int .i64) e w base ok v xs) (hb : ∀ b, v.ownBlock = some b → w1.heap[b]? = w.heap[b]?) : Kd.R (Kd.int .i64) e w1 base ok v xs := Kd.R_of_own (own_move (Kd.own_of_R h) (fun k hk => hb k hk)) h.1
theorem R_base {w : World} {e base : Nat} {ok : Nat → Prop} {v : Value} {xs : List Int} (h : Kd.R (Kd.int .i64) e w base ok v xs) {b : Nat} (hb : v.ownBlock = some b) : base ≤ b ∧ b < w.heap.size := by
  have hlt : b < w.heap.size := by
    obtain ⟨_, inner, ho, _⟩ := h
    obtain ⟨cs, hc⟩ := own_typed ho b hb
    exact (Array.getElem?_eq_some_iff.1 hc).1
  refine ⟨?_, hlt⟩
  rcases (Kd.own_of_R h).2 with ⟨e, _⟩ | ⟨g, cap, cur, e, hg, _⟩
  · rw [e] at hb
    simp [Value.ownBlock] at hb
  · rw [e] at hb
    simp only [Value.ownBlock, Option.some.injEq] at hb
    rw [← hb]
    exact hg
theorem bel_cellB {w w1 : World} (h : Below w.heap.size w w1) {a : Addr} {v : Value} (hc : w.cell? a = some v) : w1.cell? a = some v := (h.cell (World.block_lt_of_cell? _ _ hc)).trans hc
theorem bel_stepB {a : Nat} {w w1 w2 : World} (h : Below a w w1) (h1 : Below w1.heap.size w1 w2) (ha : a ≤ w.heap.size := by exact Nat.le_refl _) : Below a w w2 := h.trans (h1.mono (Nat.le_trans ha h.size))
theorem startsI_len (bs : List Pc) : (startsI bs).length = bs.length := by simp [startsI]
theorem startsI_get {bs : List Pc} {j : Nat} {q : Pc} (h : bs[j]? = some q) : (startsI bs)[j]? = some (q.1 : Int) := by simp [startsI, h]
theorem each_calls (w : World) (p : Nat) : Calls Try.prog 13 #[.pointer (some ⟨p, 0, none⟩)] w fun e w' =>
    e = .returned (.func (.func 29) #[] #[.pointer (some ⟨w.heap.size, 0, none⟩)]) ∧ w' = w.alloc (.cells #[.pointer (some ⟨p, 0, none⟩)] 23) := by
  go_enter Try.func13, Try.ntmps13
  go_wp2
  go_ret
  exact ⟨rfl, rfl⟩
theorem holes_calls (w : World) (p : Nat) : Calls Try.prog 32 #[.pointer (some ⟨p, 0, none⟩)] w fun e w' =>
    e = .returned (.func (.func 49) #[] #[.pointer (some ⟨w.heap.size, 0, none⟩)]) ∧ w' = w.alloc (.cells #[.pointer (some ⟨p, 0, none⟩)] 23) := by
  go_enter Try.func32, Try.ntmps32
  go_wp2
  go_ret
  exact ⟨rfl, rfl⟩
/-- The blocks that an iterator over blocks reads. -/
def SB (bx p s : Nat) (b : Nat) : Prop := b = bx ∨ b = p ∨ b = s
/-- The rising starts, as slices.Sorted gives them. -/
theorem sorted_in (W : World) (s U : Nat) (bs : List Pc) (hm : MapF Try.prog 3 W s (bkF bs)) (hok : Chain 0 bs U) (hmax : U ≤ 1024) :
    CallsIn Fence.wide 6 Try.prog 30 #[.func (.func 48) #[] #[.pointer (some ⟨W.heap.size, 0, none⟩)]] (W.alloc (.cells #[.map (some s)] 56)) fun e w' =>
      ∃ u : Value, e = .returned u ∧ Kd.R (Kd.int .i64) 3 w' W.heap.size (fun _ => True) u (startsI bs) ∧ Below W.heap.size W w' := by
  obtain ⟨D, hD, hfit⟩ := hm
  have hsz : Maps.size D ≤ 1024 := Nat.le_trans (size_le_of_room law_intB hD hfit (bk_room hok)) hmax
  have hseq : SeqGives Fence.wide 3 Try.prog 48 #[.pointer (some ⟨W.heap.size, 0, none⟩)] encZ (fun ss => ss.Perm (intKeys D)) (Maps.size D) (W.alloc (.cells #[.map (some s)] 56)) :=
    AnyZI.keys_gives (ρ := Try.keysB_ren) { Try.keysB with } Fence.wide _ trivial rfl (by omega) W.heap.size s (Maps.size D) D _ (by simp) (by simp) (hD.alloc _)
  have cS := AnyZI.sorted_in Try.sortedA Fence.wide 6 trivial trivial trivial trivial rfl (by omega) (sorts_intB _) (enters_of Try.func47 (by kernel_rfl) rfl) 48 #[.pointer (some ⟨W.heap.size, 0, none⟩)] trivial (enters_of Try.func48 (by kernel_rfl) rfl) _ _ (by unfold maxLen; omega) (by omega) _ hseq
  change CallsIn _ _ Try.prog 30 _ _ _ at cS
  refine cS.mono ?_
  rintro e w' ⟨u, ss, rfl, hS, hrow, hnil, hb⟩
  obtain ⟨h1, h2⟩ := starts_sorted hok hD hfit hS
  rw [h1, h2] at hrow
  exact ⟨u, rfl, Kd.R_of_own (ownsRow_base_a hrow (by simp)) (fun _ _ => trivial), ((Below.refl _ W).alloc (Nat.le_refl _) _).trans (hb.mono (by simp))⟩
theorem keys_in (s : Nat) (W : World) : CallsIn Fence.wide 6 Try.prog 31 #[.map (some s)] W fun e w' => e = .returned (.func (.func 48) #[] #[.pointer (some ⟨W.heap.size, 0, none⟩)]) ∧ w' = W.alloc (.cells #[.map (some s)] 56) := AnyZI.keys_in Try.keysB Fence.wide 6 trivial rfl (some s) W
end Go.Proofs.Ytgendnoafemgpaa.Hand
namespace Go.Proofs.Ytgendnoafemgpaa.Hand
attribute [local go_sem] Oper.semAt_some
open Go.RowKit Go.Maps Go.Sort Go.Shelf Go.Proofs.YtgendnoafemgpaaW.PrintWords
set_option linter.unusedVariables false
set_option linter.unusedSimpArgs false
theorem zero_intB (w : World) : (zeroValue 3).run Try.prog w = .ok (.int .i64 0) w := by kernel_rfl
theorem wf_nat {k : Nat} (h : k ≤ 4096) : (Lit.int .i64 (k : Int)).wf = true := by
  simp only [Lit.wf, IntKind.min, IntKind.max, IntKind.signed, IntKind.bits, Bool.and_eq_true]
  simp
  omega
theorem run_look {w : World} {s : Nat} {bs : List Pc} (hm : MapF Try.prog 3 w s (bkF bs)) (x : Int) (hx : (Lit.int .i64 x).wf = true) : (Instr.lookup 56 (.map (some s)) (.int .i64 x) false).run Try.prog w = .ok (.int .i64 (longI bs x)) w := by
  rw [hm.look1 law_intB Try.underlying56 (zero_intB w) (keyOf_int_mk Try.underlying3 hx), bkF_get]
theorem longI_nat (bs : List Pc) (k : Nat) : longI bs (k : Int) = (longN bs k : Int) := by simp [longI]
set_option maxHeartbeats 4000000 in
theorem each_seq (w0 : World) (bx p s U : Nat) (bs : List Pc) (hB0 : HasB w0 p s U bs) (hbx0 : w0.cell? ⟨bx, 0, none⟩ = some (.pointer (some ⟨p, 0, none⟩))) :
    SeqL ItG Try.prog 29 #[.pointer (some ⟨bx, 0, none⟩)] (bs.map encP) (SB bx p s) w0 := by
  intro l J0 J Jx W hW hJ0 hJ hJx hst hY h0
  have hB := hB0.below hW
  have hbx : W.cell? ⟨bx, 0, none⟩ = some (.pointer (some ⟨p, 0, none⟩)) := (hW.cell (World.block_lt_of_cell? _ _ hbx0)).trans hbx0
  show Calls Try.prog 29 #[.func (.yield l) #[] #[], .pointer (some ⟨bx, 0, none⟩)] W _
  have HJ0 := Aside0.mk hJ0
  have HJ := Aside0.mk hJ
  have HST := Aside0.mk hst
  have HY := Aside0.mk hY
  have H0 := Aside0.mk h0
  have HB := Aside0.mk hB
  have HBX := Aside0.mk hbx
  have c1 := hB.c1
  have cS := sorted_in W s U bs hB.map hB.ok hB.max
  have cK := keys_in s
  have hfK : Fence.wide.fn 31 := trivial
  have hfS : Fence.wide.fn 30 := trivial
  clear hB0 hbx0 hW hJ0 hJ hJx hst hY h0 hB
  refine (callsIn_wide (n := 7)).1 ?_
  refine callsIn_of_wp Try.func29 rfl trivial ?_ rfl
  simp only [Try.ntmps29, List.size_toArray, List.length_cons, List.length_nil, Nat.reduceAdd, Nat.reduceSub, Array.replicate_succ, Array.replicate_zero, List.push_toArray, List.append_toArray, List.nil_append, List.cons_append]
  gi_wp2_with (first | (gi_at_call 31; refine (cK _).mono ?_; rintro e w' ⟨rfl, rfl⟩) | (gi_at_call 30; refine cS.mono ?_; rintro e w2 ⟨u, rfl, hr, hb⟩; obtain ⟨A, cap, rfl, hcap, hC⟩ := Kd.R_reads hr; have HR := Aside0.mk hr; have HC := Aside0.mk hC; have HB2 := Aside0.mk hb; clear hr hb hC hcap))
  have HR2 := Aside0.mk (show Kd.R (Kd.int .i64) 3 w2 W.heap.size (fun _ => True) (.slice A bs.length cap) (startsI bs) by have := HR.out; rwa [startsI_len] at this)
  clear HR HC
  rw [startsI_len]
  obtain ⟨nb, hnb⟩ : ∃ n : Nat, n = bs.length := ⟨_, rfl⟩
  have HN := Aside0.mk hnb
  have hnb2 : nb ≤ 1024 := by have := HB.out.ok.le_len; have := HB.out.max; omega
  rw [← hnb]
  rw [← hnb] at HR2
  clear hnb
  have HW0 := Aside0.mk (HST.out w2.heap.size w2 HB2.out.size (Nat.le_refl _) (HJ0.out _ _ (Nat.le_refl _) H0.out (itG.grow (Nat.le_refl _) HB2.out)))
  have HBB := Aside0.mk (HB.out.below HB2.out)
  have HXB := Aside0.mk (bel_cellB HB2.out HBX.out)
  clear c1 cS cK hfK hfS hbx
  have HGW := Aside0.mk (fun (b : Nat) (hb : (Value.slice A nb cap).ownBlock = some b) => R_base HR2.out hb)
  gi_loopw [12] (fun i wr => ∃ j : Nat, j ≤ nb ∧ i = .int .i64 (j : Int) ∧ Aside0 (J w2.heap.size j wr) ∧ Aside0 (w2.heap.size ≤ wr.heap.size) ∧ Aside0 (HasB wr p s U bs) ∧ Aside0 (wr.cell? ⟨bx, 0, none⟩ = some (.pointer (some ⟨p, 0, none⟩))) ∧ Aside0 (Kd.R (Kd.int .i64) 3 wr W.heap.size (fun _ => True) (.slice A nb cap) (startsI bs))) (fun i _ => (nb - intOf i).toNat)
  case atStart => exact ⟨0, Nat.zero_le _, rfl, HW0, ⟨Nat.le_refl _⟩, HBB, HXB, HR2⟩
  case round =>
    obtain ⟨j, hj, rfl, HJj, HSZ, HBj, HXj, HRj⟩ := hrel
    clear HW0 HBB HXB HR2
    by_cases hlt : j < nb
    · obtain ⟨q, hq⟩ : ∃ q, bs[j]? = some q := ⟨_, List.getElem?_eq_getElem (by have := HN.out; omega)⟩
      obtain ⟨g, cap', e1, hg, _, hcap, _⟩ := own_slice_form HRj.out (by rw [startsI_len, ← HN.out]; omega)
      simp only [Value.slice.injEq] at e1
      obtain ⟨rfl, -, rfl⟩ := e1
      have hcell : wr.cell? ⟨g, j, none⟩ = some (.int .i64 (q.1 : Int)) := by
        obtain ⟨A, c, e2, _, hC⟩ := Kd.R_reads HRj.out
        simp only [Value.slice.injEq] at e2
        obtain ⟨rfl, -, rfl⟩ := e2
        have hR := Kd.reads_of_C (d := (0 : Int)) hC
        obtain ⟨ad, ea, hc⟩ := hR.2.2 (by rw [startsI_len, ← HN.out]; omega)
        obtain rfl := Option.some.inj ea
        have := hc j (by rw [startsI_len, ← HN.out]; exact hlt)
        rw [add_plain, List.getD_eq_getElem?_getD, startsI_get hq] at this
        simpa using this
      have hqm : q ∈ bs := List.mem_of_getElem? hq
      have hq1 := chain_mem HBj.out.ok q hqm
      have hmax := HBj.out.max
      have HQE := Aside0.mk (show (bs.map encP)[j]? = some #[.int .i64 (q.1 : Int), .int .i64 (q.2 : Int)] by rw [List.getElem?_map, hq]; rfl)
      have hlook := run_look HBj.out.map (q.1 : Int) (wf_nat (by omega))
      rw [longI_nat, longN_of HBj.out.ok hqm] at hlook
      obtain ⟨q1, q2⟩ := q
      simp only at hlook hcell hq1
      have d1 := HBj.out.c1
      have dx := HXj.out
      obtain ⟨fn, tmps, assign, body, hyr, hR⟩ := yield_any 6 (HY.out _ j wr _ HQE.out HB2.out.size HSZ.out HJj.out)
      clear hq hqm hq1 hmax hcap hg
      gi_wp2
      refine hR.mono ?_
      rintro e W3 (⟨rfl, hJ3, hk3⟩ | ⟨rfl, hx3, hs3⟩)
      · have HJ3 := Aside0.mk hJ3
        have HK3 := Aside0.mk hk3
        clear hJ3 hk3 hR hyr hcell hlook d1 dx
        gi_wp2
        go_roundw
        case rel =>
          refine ⟨j + 1, by omega, by go_num, HJ3, ⟨Nat.le_trans HSZ.out HK3.out.1⟩, ?_, ?_, ?_⟩
          · exact ⟨HBj.out.same (HK3.out.2 _ HBj.out.p_lt (.inr (.inr (.inl rfl)))) (HK3.out.2 _ HBj.out.s_lt (.inr (.inr (.inr rfl))))⟩
          · refine ⟨?_⟩
            have := HXj.out
            simp only [World.cell?, HK3.out.2 bx (World.block_lt_of_cell? _ _ HXj.out) (.inr (.inl rfl))] at this ⊢
            exact this
          · exact ⟨R_keep HRj.out (fun b hb => HK3.out.2 b (R_base HRj.out hb).2 (.inl (HGW.out b hb)))⟩
        case measure => simp [intOf]; omega
      · have HX3 := Aside0.mk hx3
        have HS3 := Aside0.mk hs3
        clear hx3 hs3 hR hyr hcell hlook d1 dx
        gi_wp2
        refine bodyPost_ret (results_none rfl _ _ _) rfl ?_
        exact ⟨⟨_, rfl⟩, .inr ⟨w2.heap.size, j, by rw [List.length_map, ← HN.out]; exact hlt, HB2.out.size, Nat.le_trans HB2.out.size (Nat.le_trans HSZ.out HS3.out.1), HX3.out⟩⟩
    · obtain rfl : j = nb := by omega
      gi_wp2
      go_end0
      exact ⟨⟨_, rfl⟩, .inl ⟨w2.heap.size, HB2.out.size, HSZ.out, by rw [List.length_map, ← HN.out]; exact HJj.out⟩⟩
end Go.Proofs.Ytgendnoafemgpaa.Hand
namespace Go.Proofs.Ytgendnoafemgpaa.Hand
open Go.RowKit Go.Proofs.YtgendnoafemgpaaW.PrintLast
set_option linter.unusedVariables false
section
variable {F : Fence} {n : Nat} {P : Program} {ops : Array Oper} {Q : Exit → Act → World → Prop} {md : Region.Mode} {S : World → Prop} {ds : List Nat}
def noDefer (ops : Array Oper) : Bool := ops.all fun o => match o.op with | .defer _ => false | _ => true
/-- One operation. -/
def wpY (F : Fence) (n : Nat) (P : Program) (o : Oper) (a : Act) (w : World) (K : Act → World → Prop) (Q : Exit → Act → World → Prop) : Prop := o.uponIn F n P a K Q ((execOp a.eval o).run P w)
def wpOpY (F : Fence) (n : Nat) (P : Program) (ops : Array Oper) (Q : Exit → Act → World → Prop) (i : Nat) (K : Act → World → Prop) (a : Act) (w : World) : Prop :=
  match ops[i]? with
  | none => K a w
  | some o => if Region.wanted o (yielded ops a.tmps) then wpY F n P o a w K Q else K (a.put o.dst undef) w
theorem wpY_mono {o : Oper} {a : Act} {w : World} {K K' : Act → World → Prop} (h : ∀ a w, K a w → K' a w) (hh : wpY F n P o a w K Q) : wpY F n P o a w K' Q := by
  unfold wpY at *
  generalize (execOp a.eval o).run P w = r at *
  cases r with
  | ok x w' =>
    cases x <;> simp only [Oper.uponIn] at hh ⊢ <;>
      first
        | exact h _ _ hh
        | exact ⟨hh.1, CallsIn.mono hh.2 (fun e w'' he => by cases e <;> first | exact h _ _ he | exact he)⟩
        | exact ⟨hh.1, RowsIn.mono hh.2 (fun _ _ he => h _ _ he)⟩
        | exact ⟨hh.1, RoundIn.mono hh.2 (fun e w'' he => by cases e <;> first | exact h _ _ he | exact he)⟩
  | halt x w' => cases x <;> simp only [Oper.uponIn] at hh ⊢ <;> exact hh
theorem wpOpY_mono {i : Nat} {a : Act} {w : World} {K K' : Act → World → Prop} (h : ∀ a w, K a w → K' a w) (hh : wpOpY F n P ops Q i K a w) : wpOpY F n P ops Q i K' a w := by
  unfold wpOpY at *
  split
  · exact h _ _ (by simpa [*] using hh)
  · rename_i o ho
    simp only [ho] at hh
    split
    · rename_i hw; simp only [hw, if_true] at hh; exact wpY_mono h hh
    · rename_i hw; simp only [hw] at hh; exact h _ _ hh
theorem wpOpIn_of_Y {i : Nat} {a : Act} {w : World} {K : Act → World → Prop} (hF : ∀ f, F.fn f) (hd : noDefer ops = true) (hh : wpOpY F n P ops Q i K a w) : wpOpIn F n P ops Q i K a w := by
  unfold wpOpY at hh
  unfold wpOpIn
  split
  · rename_i ho
    simpa [ho] using hh
  · rename_i o ho
    simp only [ho] at hh
    split
    · rename_i hw
      simp only [hw, if_true] at hh
      refine ⟨fun f _ => hF f, ?_⟩
      have hs : o.semAt F.round a.eval = execOp a.eval o := by
        cases hr : F.round with
        | none => exact Oper.semAt_none _ _
        | some l =>
          refine Oper.semAt_some l _ _ (fun c hc => ?_)
          obtain ⟨hl, he⟩ := Array.getElem?_eq_some_iff.1 ho
          have := Array.all_eq_true.1 hd i hl
          rw [he, hc] at this
          cases this
      rw [hs]
      exact hh
    · rename_i hw
      simp only [hw] at hh
      exact ⟨fun f _ => hF f, hh⟩
def wpAnyY (F : Fence) (n : Nat) (P : Program) (md : Region.Mode) (ops : Array Oper) (Q : Exit → Act → World → Prop) (S : World → Prop) (ds : List Nat) : Nat → Array Bool → Act → World → Prop
  | 0, listed, a, w => Region.ready md ops listed = [] ∧ Q .normal a w
  | fuel + 1, listed, a, w =>
    (Region.ready md ops listed = [] → Q .normal a w) ∧
    ∀ i ∈ Region.ready md ops listed, wpOpY F n P ops Q i (fun a' w' => (i ∉ ds → S w → S w') ∧ wpAnyY F n P md ops Q S ds fuel (listed.setIfInBounds i true) a' w') a w
theorem wpAnyIn_of_Y (hF : ∀ f, F.fn f) (hd : noDefer ops = true) : ∀ (fuel : Nat) (listed : Array Bool) (a : Act) (w : World), wpAnyY F n P md ops Q S ds fuel listed a w → wpAnyIn F n P md ops Q fuel listed a w
  | 0, _, _, _, h => h
  | fuel + 1, _, _, _, h => ⟨h.1, fun i hi => wpOpIn_of_Y hF hd (wpOpY_mono (fun a' w' h' => wpAnyIn_of_Y hF hd fuel _ a' w' h'.2) (h.2 i hi))⟩
theorem YieldsIf.wpOpY {i : Nat} {o : Oper} {v : Value} {a : Act} (hi : ops[i]? = some o) (hy : YieldsIf P ops S o v a) {K : Act → World → Prop} {w : World} (hS : S w) (h : K (a.put o.dst v) w) : wpOpY F n P ops Q i K a w := by
  unfold Hand.wpOpY
  simp only [hi]
  rcases hy with ⟨hw, hv⟩ | ⟨hw, rfl⟩
  · simp only [hw, if_true, wpY, hv w hS, Oper.uponIn]; exact h
  · simp only [hw, Bool.false_eq_true, if_false]; exact h
theorem wpOpY_putIf {j : Nat} {oi oj : Oper} {v : Value} (hj : ops[j]? = some oj) (hap : oi.apart ops oj = true)
    (hsi : ∀ cs b, oi.op ≠ .select cs b) (hsj : ∀ cs b, oj.op ≠ .select cs b)
    (hQ : ∀ c a w, Q (.panic c) (a.put oi.dst v) w → Q (.panic c) a w) {K : Act → World → Prop} {a : Act} {w : World}
    (hy : YieldsIf P ops S oi v a) (h : wpOpY F n P ops Q j K (a.put oi.dst v) w) :
    wpOpY F n P ops Q j (fun a' w' => YieldsIf P ops S oi v a' ∧ K (a'.put oi.dst v) w') a w := by
  obtain ⟨h1, h2, h3⟩ := Oper.apart_spec hap
  have keep : ∀ (a : Act), YieldsIf P ops S oi v a → ∀ u, YieldsIf P ops S oi v (a.put oj.dst u) := fun a hy u =>
    hy.of_same (execOp_put oi hsi a oj.dst u h3) (wanted_put oi a oj.dst u h3)
  have keepD : ∀ d, YieldsIf P ops S oi v { a with defers := d :: a.defers } := fun d => hy.of_same rfl rfl
  unfold Hand.wpOpY at *
  simp only [hj] at *
  rw [wanted_put oj a oi.dst v h1] at h
  split
  · rename_i hw
    simp only [hw, if_true] at h
    unfold wpY at *
    rw [execOp_put oj hsj a oi.dst v h1] at h
    generalize (execOp a.eval oj).run P w = r at *
    cases r with
    | ok x w' =>
      cases x <;> simp only [Oper.uponIn] at h ⊢
      case value u => exact ⟨keep a hy u, by rw [← Act.put_comm a v u h2]; exact h⟩
      case skip => exact ⟨keep a hy _, by rw [← Act.put_comm a v undef h2]; exact h⟩
      case defer d =>
        refine ⟨keep _ (keepD d) _, ?_⟩
        rw [← Act.put_comm _ v undef h2, ← Act.put_defers]
        exact h
      case enter f args =>
        refine ⟨h.1, CallsIn.mono h.2 fun e w'' he => ?_⟩
        cases e with
        | returned u => exact ⟨keep a hy u, by rw [← Act.put_comm a v u h2]; exact he⟩
        | panicked c => exact hQ _ _ _ he
        | outgrown => exact he
      case row row args => exact ⟨h.1, RowsIn.mono h.2 fun u w'' he => ⟨keep a hy u, by rw [← Act.put_comm a v u h2]; exact he⟩⟩
      case round l f tmps assign body =>
        refine ⟨h.1, RoundIn.mono h.2 fun e w'' he => ?_⟩
        cases e with
        | returned u => exact ⟨keep a hy u, by rw [← Act.put_comm a v u h2]; exact he⟩
        | panicked c => exact hQ _ _ _ he
        | outgrown => exact he
    | halt x w' =>
      cases x <;> simp only [Oper.uponIn] at h ⊢
      case panic u => exact hQ _ _ _ h
  · rename_i hw
    simp only [hw] at h
    exact ⟨keep a hy _, by rw [← Act.put_comm a v undef h2]; exact h⟩
theorem wpAnyY_first {i : Nat} {oi : Oper} {v : Value} (hi : ops[i]? = some oi) (hsel : ∀ (j : Nat) (o : Oper) cs b, ops[j]? = some o → o.op ≠ .select cs b)
    (hQ : ∀ c a w, Q (.panic c) (a.put oi.dst v) w → Q (.panic c) a w) (m : Nat) :
    ∀ (fuel : Nat) (listed : Array Bool) (a : Act) (w : World),
      (∀ j oj, ops[j]? = some oj → j ≠ i → listed.getD j true = false → (∀ e ∈ oj.after, Region.binds md e = true → e.on ≠ i) → oi.apart ops oj = true) →
      ListedClosed md ops listed → (∀ d ∈ ds, listed.getD d true = false → Region.reachB md ops i m d = true) →
      i ∈ Region.ready md ops listed → YieldsIf P ops S oi v a → S w →
      wpAnyY F n P md ops Q S ds fuel (listed.setIfInBounds i true) (a.put oi.dst v) w → wpAnyY F n P md ops Q S ds (fuel + 1) listed a w := by
  intro fuel
  induction fuel with
  | zero =>
    intro listed a w _ _ _ hr hy hS H
    refine ⟨fun h => (by rw [h] at hr; cases hr), fun j hj => ?_⟩
    by_cases hji : j = i
    · subst hji; exact YieldsIf.wpOpY hi hy hS ⟨fun _ h => h, H⟩
    · have := ready_mono hj hji
      rw [H.1] at this
      cases this
  | succ fuel ih =>
    intro listed a w hfree hc hd hr hy hS H
    refine ⟨fun h => (by rw [h] at hr; cases hr), fun j hj => ?_⟩
    by_cases hji : j = i
    · subst hji; exact YieldsIf.wpOpY hi hy hS ⟨fun _ h => h, H⟩
    · have h1 := H.2 j (ready_mono hj hji)
      obtain ⟨hjun, oj, hoj, hall⟩ := mem_ready.1 hj
      have hiun := (mem_ready.1 hr).1
      have hnot : ∀ e ∈ oj.after, Region.binds md e = true → e.on ≠ i := fun e he hb heq => by
        have h1 := hall e he hb
        rw [heq] at h1
        rcases Nat.lt_or_ge i listed.size with h' | h'
        · simp [h'] at hiun h1; rw [hiun] at h1; cases h1
        · simp [Array.getElem?_eq_none h'] at h1
      have hjd : j ∉ ds := fun hm => Region.reach_not_ready hc (hd j hm hjun) hiun hj
      have h2 := wpOpY_putIf hoj (hfree j oj hoj hji hjun hnot) (fun cs b => hsel i oi cs b hi) (fun cs b => hsel j oj cs b hoj) hQ hy h1
      have hfree' : ∀ k ok, ops[k]? = some ok → k ≠ i → (listed.setIfInBounds j true).getD k true = false →
          (∀ e ∈ ok.after, Region.binds md e = true → e.on ≠ i) → oi.apart ops ok = true := fun k ok hk hki hun hno => by
        refine hfree k ok hk hki ?_ hno
        by_cases hjk : j = k
        · subst hjk; exact hjun
        · rw [getD_set_ne true hjk] at hun; exact hun
      have hd' : ∀ d ∈ ds, (listed.setIfInBounds j true).getD d true = false → Region.reachB md ops i m d = true := fun d hm hun => by
        refine hd d hm ?_
        by_cases hjk : j = d
        · subst hjk; exact hjun
        · rw [getD_set_ne true hjk] at hun; exact hun
      refine wpOpY_mono (fun a' w' h3 => ⟨h3.2.1, ih (listed.setIfInBounds j true) a' w' hfree' (hc.set hj) hd' (ready_mono hr (Ne.symm hji)) h3.1 (h3.2.1 hjd hS) ?_⟩) h2
      rw [Array.setIfInBounds_comm _ _ hji]
      exact h3.2.2
theorem wpAnyY_any {i : Nat} {oi : Oper} {v : Value} (hi : ops[i]? = some oi) (hsel : ∀ (j : Nat) (o : Oper) cs b, ops[j]? = some o → o.op ≠ .select cs b)
    (hQ : ∀ c a w, Q (.panic c) (a.put oi.dst v) w → Q (.panic c) a w) :
    ∀ (fuel : Nat) (listed : Array Bool) (a : Act) (w : World),
      (∀ j oj, ops[j]? = some oj → j ≠ i → listed.getD j true = false → (∀ e ∈ oj.after, Region.binds md e = true → e.on ≠ i) → oi.apart ops oj = true) →
      i ∈ Region.ready md ops listed → YieldsIf P ops (fun _ => True) oi v a →
      wpAnyY F n P md ops Q S ds fuel (listed.setIfInBounds i true) (a.put oi.dst v) w → wpAnyY F n P md ops Q S ds (fuel + 1) listed a w := by
  intro fuel
  induction fuel with
  | zero =>
    intro listed a w _ hr hy H
    refine ⟨fun h => (by rw [h] at hr; cases hr), fun j hj => ?_⟩
    by_cases hji : j = i
    · subst hji; exact YieldsIf.wpOpY hi hy trivial ⟨fun _ h => h, H⟩
    · have := ready_mono hj hji
      rw [H.1] at this
      cases this
  | succ fuel ih =>
    intro listed a w hfree hr hy H
    refine ⟨fun h => (by rw [h] at hr; cases hr), fun j hj => ?_⟩
    by_cases hji : j = i
    · subst hji; exact YieldsIf.wpOpY hi hy trivial ⟨fun _ h => h, H⟩
    · have h1 := H.2 j (ready_mono hj hji)
      obtain ⟨hjun, oj, hoj, hall⟩ := mem_ready.1 hj
      have hiun := (mem_ready.1 hr).1
      have hnot : ∀ e ∈ oj.after, Region.binds md e = true → e.on ≠ i := fun e he hb heq => by
        have h1 := hall e he hb
        rw [heq] at h1
        rcases Nat.lt_or_ge i listed.size with h' | h'
        · simp [h'] at hiun h1; rw [hiun] at h1; cases h1
        · simp [Array.getElem?_eq_none h'] at h1
      have h2 := wpOpY_putIf hoj (hfree j oj hoj hji hjun hnot) (fun cs b => hsel i oi cs b hi) (fun cs b => hsel j oj cs b hoj) hQ hy h1
      have hfree' : ∀ k ok, ops[k]? = some ok → k ≠ i → (listed.setIfInBounds j true).getD k true = false →
          (∀ e ∈ ok.after, Region.binds md e = true → e.on ≠ i) → oi.apart ops ok = true := fun k ok hk hki hun hno => by
        refine hfree k ok hk hki ?_ hno
        by_cases hjk : j = k
        · subst hjk; exact hjun
        · rw [getD_set_ne true hjk] at hun; exact hun
      refine wpOpY_mono (fun a' w' h3 => ⟨h3.2.1, ih (listed.setIfInBounds j true) a' w' hfree' (ready_mono hr (Ne.symm hji)) h3.1 ?_⟩) h2
      rw [Array.setIfInBounds_comm _ _ hji]
      exact h3.2.2
/-- No operation of the region panics. -/
def noP (Q : Exit → Act → World → Prop) : Exit → Act → World → Prop
  | .panic _, _, _ => False
  | e, a, w => Q e a w
theorem Ystart_ {id m : Nat} {a : Act} {w : World} (l : Array Bool) (hm : P.follows .mixedOrders = true) (hn : ops.size = m) (hl : Array.replicate m false = l) (hF : ∀ f, F.fn f) (hd : noDefer ops = true) (hS : S w.drew)
    (h : S w.drew → wpAnyY F n P .any ops (noP Q) S ds m l a w.drew) : (Code.region id ops true).wpIn F n P Q a w := by
  subst hn
  subst hl
  refine wpIn_mono (wpIn_region_any (Q := noP Q) hm (wpAnyIn_of_Y hF hd _ _ _ _ (h hS))) ?_
  intro e a w h
  cases e <;> first | exact h | exact h.elim
theorem Ytake_ {i : Nat} {N : Option Tmp} {oi : Oper} {v : Value} {fuel : Nat} {l : Array Bool} {a : Act} {w : World} (l' : Array Bool) (hi : ops[i]? = some oi) (hN : oi.dst = N) (hc : takeB md ops ds l l' i = true)
    (hQ : ∀ c a w, Q (.panic c) (a.put oi.dst v) w → Q (.panic c) a w) (hy : YieldsIf P ops S oi v a) (hS : S w) {a' : Act} (ha : a.put N v = a')
    (h : wpAnyY F n P md ops Q S ds fuel l' a' w) : wpAnyY F n P md ops Q S ds (fuel + 1) l a w := by
  subst ha
  subst hN
  simp only [takeB, Bool.and_eq_true, beq_iff_eq] at hc
  obtain ⟨⟨⟨⟨⟨h1, h2⟩, h3⟩, h4⟩, h5⟩, h6⟩ := hc
  subst h6
  exact wpAnyY_first hi (Region.noSelect_spec h1) hQ ops.size fuel l a w (Region.free_spec hi h2) (Region.closedB_spec h4)
    (fun d hm hun => by have := List.all_eq_true.1 h5 d hm; rw [hun] at this; simpa using this) (by simpa using h3) hy hS h
theorem Ypure_ {i : Nat} {N : Option Tmp} {oi : Oper} {v : Value} {fuel : Nat} {l : Array Bool} {a : Act} {w : World} (l' : Array Bool) (hi : ops[i]? = some oi) (hN : oi.dst = N) (hc : anyB md ops l l' i = true)
    (hQ : ∀ c a w, Q (.panic c) (a.put oi.dst v) w → Q (.panic c) a w) (hy : Yields P ops oi v a) {a' : Act} (ha : a.put N v = a')
    (h : wpAnyY F n P md ops Q S ds fuel l' a' w) : wpAnyY F n P md ops Q S ds (fuel + 1) l a w := by
  subst ha
  subst hN
  simp only [anyB, Bool.and_eq_true, beq_iff_eq] at hc
  obtain ⟨⟨⟨h1, h2⟩, h3⟩, h6⟩ := hc
  subst h6
  exact wpAnyY_any hi (Region.noSelect_spec h1) hQ fuel l a w (Region.free_spec hi h2) (by simpa using h3) hy.yieldsIf h
theorem Yone_ {i : Nat} {N : Option Tmp} {oi : Oper} {fuel : Nat} {l : Array Bool} {a : Act} {w : World} (l' : Array Bool) (hi : ops[i]? = some oi) (hN : oi.dst = N) (hc : readyB md ops l l' i = true) (hd : i ∉ ds)
    (h : ∀ K : Act → World → Prop, Shut (∀ a' w', S w' → (S w' → wpAnyY F n P md ops Q S ds fuel l' a' w') → K a' w') → if Region.wanted oi (yielded ops a.tmps) = true then wpY F n P oi a w K Q else K (a.put N undef) w) :
    wpAnyY F n P md ops Q S ds (fuel + 1) l a w := by
  subst hN
  simp only [readyB, Bool.and_eq_true, beq_iff_eq] at hc
  obtain ⟨h1, h2⟩ := hc
  subst h2
  refine ⟨fun h0 => (by rw [h1] at h0; cases h0), fun j hj => ?_⟩
  rw [h1, List.mem_singleton] at hj
  subst hj
  unfold wpOpY
  rw [hi]
  exact h _ (fun a' w' hS hW => ⟨fun _ _ => hS, hW hS⟩)
theorem Ylast_ {i : Nat} {N : Option Tmp} {oi : Oper} {fuel : Nat} {l : Array Bool} {a : Act} {w : World} (l' : Array Bool) (hi : ops[i]? = some oi) (hN : oi.dst = N) (hc : readyB md ops l l' i = true) (hd : i ∈ ds)
    (h : ∀ K : Act → World → Prop, Shut (∀ a' w', wpAnyY F n P md ops Q S ds fuel l' a' w' → K a' w') → if Region.wanted oi (yielded ops a.tmps) = true then wpY F n P oi a w K Q else K (a.put N undef) w) :
    wpAnyY F n P md ops Q S ds (fuel + 1) l a w := by
  subst hN
  simp only [readyB, Bool.and_eq_true, beq_iff_eq] at hc
  obtain ⟨h1, h2⟩ := hc
  subst h2
  refine ⟨fun h0 => (by rw [h1] at h0; cases h0), fun j hj => ?_⟩
  rw [h1, List.mem_singleton] at hj
  subst hj
  unfold wpOpY
  rw [hi]
  exact h _ (fun a' w' hW => ⟨fun hn => absurd hd hn, hW⟩)
theorem Ydone_ {l : Array Bool} {a : Act} {w : World} {m : Nat} (hr : (Region.ready md ops l == []) = true) (h : Q .normal a w) : wpAnyY F n P md ops (noP Q) S ds m l a w := by
  have hr' : Region.ready md ops l = [] := by simpa using hr
  cases m with
  | zero => exact ⟨hr', h⟩
  | succ m => exact ⟨fun _ => h, by rw [hr']; simp⟩
theorem Ynorm_ {fuel : Nat} {l : Array Bool} {a a' : Act} {w : World} (ha : a = a') (h : wpAnyY F n P md ops Q S ds fuel l a' w) : wpAnyY F n P md ops Q S ds fuel l a w := by
  subst ha
  exact h
/-- A call of yield. -/
theorem Yyield_ {oi : Oper} {N : Option Tmp} {a : Act} {w : World} {K : Act → World → Prop} {l : Nat} {t : Operand} {az : Array Operand} {ts : Array TypeId} {args : Array Value} {R : Ending → World → Prop} (hw : Region.wanted oi (yielded ops a.tmps) = true) (hN : oi.dst = N)
    (hop : oi.op = .call { callee := .value t, args := az, argTypes := ts }) (hv : a.eval t = .func (.yield l) #[] #[]) (hargs : az.map a.eval = args) (hy : YieldAt Fence.wide 0 P l args w R) (hF : F = Fence.wide ∨ ∃ l', F = Fence.wide.inRound l')
    (h : ∀ e w', R e w' → ∃ v, e = .returned v ∧ K (a.put N v) w') : if Region.wanted oi (yielded ops a.tmps) = true then wpY F n P oi a w K Q else K (a.put N undef) w := by
  rw [if_pos hw]
  subst hN
  subst hargs
  obtain ⟨fn, tmps, assign, body, hyr, hR⟩ := yield_any (n - 1) hy
  have hrun : (execOp a.eval oi).run P w = .ok (.round l fn tmps assign body) w := by
    unfold execOp
    simp [hop, resolve, Deferred.ofValue, invoke, hv, hyr]
  unfold wpY
  rw [hrun, Oper.uponIn_round]
  refine ⟨?_, ?_⟩
  · rcases hF with rfl | ⟨l', rfl⟩ <;> exact fun h => absurd h (by simp [Fence.wide])
  · have := hR.mono (fun e w' he => h e w' he)
    have h2 : RoundIn F (n - 1) P l fn tmps assign body w (fun e w' => ∃ v, e = .returned v ∧ K (a.put oi.dst v) w') := by
      rcases hF with rfl | ⟨l', rfl⟩ <;> exact this
    refine h2.mono ?_
    rintro e w' ⟨v, rfl, hk⟩
    exact hk
theorem Ygoes_ {oi : Oper} {N : Option Tmp} {a : Act} {w : World} {K : Act → World → Prop} {f : FuncId} {fn : Func} {az : Array Operand} {ts : Array TypeId} (hf : P.funcs[f]? = some fn) (hname : (fn.name == "runtime.NumGoroutine") = false) (hb : fn.body.isSome = true) (args : Array Value)
    (hw : Region.wanted oi (yielded ops a.tmps) = true) (hN : oi.dst = N) (hop : oi.op = .call { callee := .value (.func f), args := az, argTypes := ts }) (hargs : az.map a.eval = args) (hF : F = Fence.wide ∨ ∃ l', F = Fence.wide.inRound l')
    (h : Calls P f args w fun e w' => ∃ v, e = .returned v ∧ K (a.put N v) w') : if Region.wanted oi (yielded ops a.tmps) = true then wpY F n P oi a w K Q else K (a.put N undef) w := by
  rw [if_pos hw]
  subst hN
  have he := enters_ hf hname hb args w
  have hrun : (execOp a.eval oi).run P w = .ok (.enter f args) w := by
    unfold execOp
    simp [hop, resolve, Deferred.ofValue, invoke, Act.eval, hargs, he]
  unfold wpY
  rw [hrun, Oper.uponIn_enter]
  refine ⟨?_, ?_⟩
  · rcases hF with rfl | ⟨l', rfl⟩ <;> exact fun h => absurd h (by simp [Fence.wide])
  · have h1 : CallsIn F (n - 1) P f args w (fun e w' => ∃ v, e = .returned v ∧ K (a.put oi.dst v) w') := by
      have := (callsIn_wide (n := n - 1)).2 h
      rcases hF with rfl | ⟨l', rfl⟩
      · exact this
      · exact this.inRound l'
    refine h1.mono ?_
    rintro e w' ⟨v, rfl, hk⟩
    exact hk
theorem Yvalue_ {oi : Oper} {N : Option Tmp} {a : Act} {w w1 : World} {v : Value} {K : Act → World → Prop} (hw : Region.wanted oi (yielded ops a.tmps) = true) (hN : oi.dst = N) (hrun : (execOp a.eval oi).run P w = .ok (.value v) w1)
    (h : K (a.put N v) w1) : if Region.wanted oi (yielded ops a.tmps) = true then wpY F n P oi a w K Q else K (a.put N undef) w := by
  rw [if_pos hw]
  subst hN
  unfold wpY
  rw [hrun]
  exact h
theorem Yskip_ {oi : Oper} {a : Act} {w w1 : World} {K : Act → World → Prop} (hw : Region.wanted oi (yielded ops a.tmps) = true) (hN : oi.dst = none) (hrun : (execOp a.eval oi).run P w = .ok .skip w1)
    (h : K a w1) : if Region.wanted oi (yielded ops a.tmps) = true then wpY F n P oi a w K Q else K (a.put none undef) w := by
  rw [if_pos hw]
  unfold wpY
  rw [hrun]
  show K (a.put oi.dst undef) w1
  rw [hN]
  exact h
end
end Go.Proofs.Ytgendnoafemgpaa.Hand
namespace Go.Proofs.Ytgendnoafemgpaa.Hand
attribute [local go_sem] Oper.semAt_some
open Go.RowKit Go.Maps Go.Sort Go.Shelf Go.Proofs.YtgendnoafemgpaaW.PrintWords Go.Proofs.YtgendnoafemgpaaW.PrintLast
set_option linter.unusedVariables false
set_option linter.unusedSimpArgs false
theorem keep_cell {N M : Nat} {S : Nat → Prop} {A B : World} (h : KeepI N M S A B) {b o : Nat} {v : Value} (hc : A.cell? ⟨b, o, none⟩ = some v) (hs : N ≤ b ∧ b < M ∨ S b) : B.cell? ⟨b, o, none⟩ = some v := by
  have := h.2 b (World.block_lt_of_cell? _ _ hc) hs
  simp only [World.cell?, this] at hc ⊢
  exact hc
theorem keep_blk {N M : Nat} {S : Nat → Prop} {A B : World} (h : KeepI N M S A B) {b : Nat} {o : Obj} (hc : A.heap[b]? = some o) (hs : N ≤ b ∧ b < M ∨ S b) : B.heap[b]? = some o :=
  (h.2 b (Array.getElem?_eq_some_iff.1 hc).1 hs).trans hc
theorem below_cell {N : Nat} {A B : World} (h : Below N A B) {b o : Nat} {v : Value} (hb : b < N) (hc : A.cell? ⟨b, o, none⟩ = some v) : B.cell? ⟨b, o, none⟩ = some v := (h.cell (p := ⟨b, o, none⟩) hb).trans hc
/-- What the iterator over the free pieces holds between two rounds of the blocks. -/
structure HoI (J : Nat → Nat → World → Prop) (l N bx p s U : Nat) (bs : List Pc) (M k : Nat) (W : World) : Prop where
  ex : ∃ (pre : List Pc) (e : Nat), gaps 0 bs U = pre ++ gaps e (bs.drop k) U ∧ Chain e (bs.drop k) U ∧ J M pre.length W ∧ W.heap[N + 1]? = some (.cells #[.int .i64 (e : Int)] 3 (0, 0))
  y : W.cell? ⟨N, 0, none⟩ = some (.func (.yield l) #[] #[])
  b2 : W.cell? ⟨N + 2, 0, none⟩ = some (.pointer (some ⟨p, 0, none⟩))
  b : HasB W p s U bs
  x : W.cell? ⟨bx, 0, none⟩ = some (.pointer (some ⟨p, 0, none⟩))
theorem HoI.below {J : Nat → Nat → World → Prop} {l N bx p s U : Nat} {bs : List Pc} {M k : Nat} {A B : World} (h : HoI J l N bx p s U bs M k A) (hJ : ∀ M k A B, N ≤ A.heap.size → J M k A → ItB N A B → J M k B) (hN : N + 3 ≤ A.heap.size) (hbx : bx < N) (hp : p < N) (hs : s < N) (hb : Below (N + 3) A B) : HoI J l N bx p s U bs M k B := by
  obtain ⟨pre, e, h1, h2, h3, h4⟩ := h.ex
  exact ⟨⟨pre, e, h1, h2, hJ _ _ _ _ (by omega) h3 (hb.mono (by omega)), (hb.block _ (by omega)).trans h4⟩, below_cell hb (by omega) h.y, below_cell hb (by omega) h.b2, h.b.same (hb.block _ (by omega)) (hb.block _ (by omega)), below_cell hb (by omega) h.x⟩
set_option maxHeartbeats 8000000 in
theorem holes_seq (w0 : World) (bx p s U : Nat) (bs : List Pc) (hB0 : HasB w0 p s U bs) (hbx0 : w0.cell? ⟨bx, 0, none⟩ = some (.pointer (some ⟨p, 0, none⟩))) :
    SeqL ItB Try.prog 49 #[.pointer (some ⟨bx, 0, none⟩)] ((gaps 0 bs U).map encP) (SB bx p s) w0 := by
  intro l J0 J Jx W hW hJ0 hJ hJx hst hY h0
  have hB := hB0.below hW
  have hbx : W.cell? ⟨bx, 0, none⟩ = some (.pointer (some ⟨p, 0, none⟩)) := (hW.cell (World.block_lt_of_cell? _ _ hbx0)).trans hbx0
  show Calls Try.prog 49 #[.func (.yield l) #[] #[], .pointer (some ⟨bx, 0, none⟩)] W _
  obtain ⟨N, hN⟩ : ∃ N, N = W.heap.size := ⟨_, rfl⟩
  have hlt : bx < N ∧ p < N ∧ s < N := ⟨by rw [hN]; exact World.block_lt_of_cell? _ _ hbx, by rw [hN]; exact hB.p_lt, by rw [hN]; exact hB.s_lt⟩
  have HLT := Aside0.mk hlt
  have HNN := Aside0.mk hN
  rw [← hN] at hJ0 hJ hJx hst hY
  have HJ0 := Aside0.mk hJ0
  have HJ := Aside0.mk hJ
  have HJX := Aside0.mk hJx
  have HST := Aside0.mk hst
  have HY := Aside0.mk hY
  have H0 := Aside0.mk h0
  have HB := Aside0.mk hB
  have HBX := Aside0.mk hbx
  have cE := fun (w : World) => callsIn_wide (n := 11).2 (each_calls w p)
  have hfE : Fence.wide.fn 13 := trivial
  have hbx2 : ∀ o o2 : Obj, ((W.alloc o).alloc o2).cell? ⟨bx, 0, none⟩ = some (.pointer (some ⟨p, 0, none⟩)) := fun o o2 => cell_alloc (cell_alloc hbx o) o2
  clear hB0 hbx0 hW hJ0 hJ hJx hst hY h0 hB hlt hN hbx
  refine (callsIn_wide (n := 12)).1 ?_
  refine callsIn_of_wp_marks Try.func49 rfl trivial ?_ rfl
  simp only [Try.ntmps49, List.size_toArray, List.length_cons, List.length_nil, Nat.reduceAdd, Nat.reduceSub, Array.replicate_succ, Array.replicate_zero, List.push_toArray, List.append_toArray, List.nil_append, List.cons_append]
  gi_wp2_with (gi_at_call 13; refine (cE _).mono ?_; rintro e w' ⟨rfl, rfl⟩)
  clear hbx2 cE hfE
  obtain ⟨w1, hw1⟩ : ∃ w1, w1 = (((W.alloc (Obj.cells #[Value.func (Fn.yield l) #[] #[]] 59)).alloc (Obj.cells #[Value.int IntKind.i64 0] 3)).alloc (Obj.cells #[Value.pointer (some { block := p, off := 0 })] 23)) := ⟨_, rfl⟩
  rw [← hw1]
  have hz1 : w1.heap.size = N + 3 := by rw [hw1, HNN.out]; simp
  have HZ1 := Aside0.mk hz1
  have HBW := Aside0.mk (show Below W.heap.size W w1 by rw [hw1]; exact below_alloc (below_alloc (below_alloc (Below.refl _ _) _) _) _)
  have b0 : w1.cell? ⟨N, 0, none⟩ = some (.func (.yield l) #[] #[]) := by rw [hw1, HNN.out]; exact cell_alloc (cell_alloc (new_cell W _ _ 0 rfl) _) _
  have b1 : w1.heap[N + 1]? = some (.cells #[.int .i64 ((0 : Nat) : Int)] 3 (0, 0)) := by
    rw [hw1, HNN.out]
    have := alloc_two W (Obj.cells #[Value.func (Fn.yield l) #[] #[]] 59) (Obj.cells #[Value.int IntKind.i64 0] 3)
    exact old_blk this _
  have b2 : w1.heap[N + 2]? = some (.cells #[.pointer (some ⟨p, 0, none⟩)] 23 (0, 0)) := by
    rw [hw1, HNN.out]
    exact alloc_three W _ _ _
  have HB2 := Aside0.mk b2
  have HB1 := Aside0.mk b1
  have HB0 := Aside0.mk b0
  clear b0 b1 b2 hw1
  rw [← HNN.out]
  obtain ⟨hbx1, hp1, hs1⟩ := HLT.out
  have hseq := each_seq w1 (N + 2) p s U bs (HB.out.below HBW.out) (blk_cell HB2.out rfl)
  refine range_listA itG (xs := bs) (enc := encP) rfl (enters_of Try.func29 (by kernel_rfl) rfl) hseq (Below.refl _ _) (fun b hb => ?_) (fun _ => rfl)
    (fun W' => J0 W' ∧ W'.heap[N + 1]? = some (.cells #[.int .i64 ((0 : Nat) : Int)] 3 (0, 0)) ∧ W'.cell? ⟨N, 0, none⟩ = some (.func (.yield l) #[] #[]) ∧ W'.cell? ⟨N + 2, 0, none⟩ = some (.pointer (some ⟨p, 0, none⟩)) ∧ HasB W' p s U bs ∧ W'.cell? ⟨bx, 0, none⟩ = some (.pointer (some ⟨p, 0, none⟩)))
    (HoI J l N bx p s U bs) (fun c M _ W' => c = .ret ∧ N ≤ M ∧ ∃ k, k < (gaps 0 bs U).length ∧ Jx M k W') ?hI0 ?hI ?hIx ?hstart ?h0 (fun x => { tmps := #[.func (.yield l) #[] #[], .pointer (some ⟨bx, 0, none⟩), .pointer (some ⟨N, 0, none⟩), .pointer (some ⟨N + 1, 0, none⟩), .int .i64 (x.1 : Int), .int .i64 (x.2 : Int), .pointer (some ⟨p, 0, none⟩), .func (.func 29) #[] #[.pointer (some ⟨N + 1 + 1, 0, none⟩)], .int .i64 (x.1 : Int), .int .i64 (x.2 : Int), undef, undef, undef, undef, undef, undef, undef, undef, undef, undef, undef, undef, undef, undef, undef, undef, undef, undef, undef, undef, undef, undef, undef, undef, undef, undef, undef, undef, undef, undef], defers := [] }) ?assign ?body ?done ?stop
  · rcases hb with rfl | rfl | rfl <;> omega
  case hI0 =>
    rintro A B hA ⟨h1, h2, h3, h4, h5, h6⟩ hg
    have hb := itG.below hA hg
    rw [hz1] at hb hA
    exact ⟨HJ0.out A B (by omega) h1 (hb.mono (by omega)), (hb.block _ (by omega)).trans h2, below_cell hb (by omega) h3, below_cell hb (by omega) h4, h5.same (hb.block _ (by omega)) (hb.block _ (by omega)), below_cell hb (by omega) h6⟩
  case hI =>
    intro M k A B hA h hg
    have hb := itG.below hA hg
    rw [hz1] at hb hA
    exact h.below HJ.out hA hbx1 hp1 hs1 hb
  case hIx =>
    rintro c M k A B hA ⟨rfl, hM, j, hj, h⟩ hg
    have hb := itG.below hA hg
    rw [hz1] at hb hA
    exact ⟨rfl, hM, j, hj, HJX.out M j A B (by omega) h (hb.mono (by omega))⟩
  case hstart =>
    rintro M W' hM hMW ⟨h1, h2, h3, h4, h5, h6⟩
    exact ⟨⟨[], 0, rfl, by rw [List.drop_zero]; exact h5.ok, HST.out M W' (by omega) hMW h1, h2⟩, h3, h4, h5, h6⟩
  case h0 =>
    exact ⟨HJ0.out _ _ (by rw [HNN.out]; exact Nat.le_refl _) H0.out (by rw [HNN.out]; exact HBW.out), HB1.out, HB0.out, blk_cell HB2.out rfl, HB.out.below HBW.out, bel_cellB HBW.out HBX.out⟩
  case assign =>
    intro l' x W' K hK
    simp only [encP]
    gi_wp2
    exact hK
  case body =>
    rintro l' M k ⟨a, n⟩ W' hx hM hMW h
    rw [hz1] at hM
    have hm := h.b.max
    have hxm := chain_mem h.b.ok (a, n) (List.mem_of_getElem? hx)
    obtain ⟨pre, e, g1, g2, g3, g4⟩ := h.ex
    have hdr : bs.drop k = (a, n) :: bs.drop (k + 1) := by
      obtain ⟨hlt, he⟩ := List.getElem?_eq_some_iff.1 hx
      rw [List.drop_eq_getElem_cons hlt, he]
    rw [hdr] at g1 g2
    obtain ⟨g5, g6, g7⟩ := g2
    simp only at g5 g6 g7 hxm
    have HG7 := Aside0.mk g7
    have HH := Aside0.mk h
    have HG4 := Aside0.mk g4
    have HG3 := Aside0.mk g3
    have HMW := Aside0.mk hMW
    have HM := Aside0.mk hM
    have cy := h.y
    have ce := blk_cell g4 (i := 0) rfl
    have cf := blk_free g4 0
    have hw2 : IntKind.i64.wrap ((a : Int) + n) = a + n := IntWalk.i64_in _ (by omega)
    by_cases hea : e < a
    · have hw1 : IntKind.i64.wrap ((a : Int) - e) = (a : Int) - e := IntWalk.i64_in _ (by omega)
      have HQ := Aside0.mk (show ((gaps 0 bs U).map encP)[pre.length]? = some #[.int .i64 (e : Int), .int .i64 ((a : Int) - e)] by
        rw [List.getElem?_map, g1, List.getElem?_append_right (Nat.le_refl _), Nat.sub_self, gaps, if_pos hea]
        simp only [List.cons_append, List.getElem?_cons_zero, Option.map_some, encP]
        rw [Int.ofNat_sub (by omega)])
      have HQL := Aside0.mk (show pre.length < (gaps 0 bs U).length by rw [g1, List.length_append, gaps, if_pos hea]; simp)
      have HG1 := Aside0.mk (show gaps 0 bs U = (pre ++ [(e, a - e)]) ++ gaps (a + n) (bs.drop (k + 1)) U by rw [g1, gaps, if_pos hea]; simp)
      obtain ⟨fn, tmps, assign, body, hyr, hR⟩ := yield_any 9 (HY.out M pre.length W' _ HQ.out (by omega) HMW.out HG3.out)
      clear h hx g1 g3 g4 g7 hdr hMW hM hseq hz1 hxm
      gi_wp2
      refine hR.mono ?_
      rintro r W3 (⟨rfl, hJ3, hk3⟩ | ⟨rfl, hx3, hs3⟩)
      · have HJ3 := Aside0.mk hJ3
        have HK3 := Aside0.mk hk3
        have k4 := Aside0.mk (keep_blk hk3 HG4.out (.inl ⟨by omega, by have := HM.out; omega⟩))
        have ce3 := blk_cell k4.out (i := 0) rfl
        have cf3 := blk_free k4.out 0
        clear hJ3 hk3 hR hyr cy ce cf
        gi_wp2
        have HBS := Aside0.mk (Below.refl (N + 1) W3 |>.setCell (p := ⟨N + 1, 0, none⟩) (Nat.le_refl _) (.int .i64 ((a : Int) + n)))
        have HF := Aside0.mk (show ∀ b, b ≠ N + 1 → (W3.setCell ⟨N + 1, 0, none⟩ (.int .i64 ((a : Int) + n))).heap[b]? = W3.heap[b]? from fun b hb => Below.heap_setCell _ _ _ _ hb)
        refine ⟨⟨by have := HK3.out.1; simpa using this, fun b hb hs => ?_⟩, ⟨⟨pre ++ [(e, a - e)], a + n, HG1.out, HG7.out, ?_, ?_⟩, ?_, ?_, ?_, ?_⟩⟩
        · have hne : b ≠ N + 1 := by
            rcases hs with hs | rfl | rfl | rfl
            · have := HZ1.out; omega
            · omega
            · omega
            · omega
          refine (HF.out b hne).trans (HK3.out.2 b hb ?_)
          rcases hs with hs | rfl | rfl | rfl
          · exact .inl ⟨by have := HZ1.out; omega, hs.2⟩
          · exact .inl ⟨by omega, by have := HM.out; omega⟩
          · exact .inr (.inr (.inl rfl))
          · exact .inr (.inr (.inr rfl))
        · rw [List.length_append, List.length_singleton]
          refine HJ.out _ _ _ _ ?_ HJ3.out (HBS.out.mono (by omega))
          have := HK3.out.1; have := HMW.out; have := HM.out; omega
        · have := blk_set k4.out 0 (.int .i64 ((a : Int) + n))
          simpa using this
        · exact cell_far (keep_cell HK3.out HH.out.y (.inl ⟨by omega, by have := HM.out; omega⟩)) _ (by simp)
        · exact cell_far (keep_cell HK3.out HH.out.b2 (.inl ⟨by omega, by have := HM.out; omega⟩)) _ (by simp)
        · exact HH.out.b.same ((HF.out p (by omega)).trans (HK3.out.2 _ HH.out.b.p_lt (.inr (.inr (.inl rfl))))) ((HF.out s (by omega)).trans (HK3.out.2 _ HH.out.b.s_lt (.inr (.inr (.inr rfl)))))
        · exact cell_far (keep_cell HK3.out HH.out.x (.inr (.inl rfl))) _ (by simp; omega)
      · have HX3 := Aside0.mk hx3
        have HS3 := Aside0.mk hs3
        clear hx3 hs3 hR hyr cy ce cf
        gi_wp2
        exact ⟨HS3.out.mono (by have := HZ1.out; omega) (Nat.le_refl _) (fun b h => h.elim), rfl, by have := HM.out; omega, pre.length, HQL.out, HX3.out⟩
    · obtain rfl : e = a := by omega
      have HG1 := Aside0.mk (show gaps 0 bs U = pre ++ gaps (e + n) (bs.drop (k + 1)) U by rw [g1, gaps, if_neg hea, List.nil_append])
      clear h hx g1 g3 g4 g7 hdr hMW hM hseq hz1 hxm
      gi_wp2
      refine ⟨fun _ h => (by cases h), ?_⟩
      gi_wp2
      have HBS := Aside0.mk (Below.refl (N + 1) W' |>.setCell (p := ⟨N + 1, 0, none⟩) (Nat.le_refl _) (.int .i64 ((e : Int) + n)))
      have HF := Aside0.mk (show ∀ b, b ≠ N + 1 → (W'.setCell ⟨N + 1, 0, none⟩ (.int .i64 ((e : Int) + n))).heap[b]? = W'.heap[b]? from fun b hb => Below.heap_setCell _ _ _ _ hb)
      refine ⟨⟨by simp, fun b hb hs => HF.out b ?_⟩, ⟨⟨pre, e + n, HG1.out, HG7.out, ?_, ?_⟩, ?_, ?_, ?_, ?_⟩⟩
      · rcases hs with hs | rfl | rfl | rfl
        · have := HZ1.out; omega
        · omega
        · omega
        · omega
      · refine HJ.out _ _ _ _ ?_ HG3.out (HBS.out.mono (by omega))
        have := HMW.out; have := HM.out; omega
      · have := blk_set HG4.out 0 (.int .i64 ((e : Int) + n))
        simpa using this
      · exact cell_far HH.out.y _ (by simp)
      · exact cell_far HH.out.b2 _ (by simp)
      · exact HH.out.b.same (HF.out p (by omega)) (HF.out s (by omega))
      · exact cell_far HH.out.x _ (by simp; omega)
  case done =>
    intro M W' hM hMW h hD
    rw [hz1] at hM
    have hm := h.b.max
    obtain ⟨pre, e, g1, g2, g3, g4⟩ := h.ex
    rw [List.drop_length] at g1 g2
    have hMx := hM
    have HH := Aside0.mk h
    have HG4 := Aside0.mk g4
    have HG3 := Aside0.mk g3
    have HMW := Aside0.mk hMW
    have HM := Aside0.mk hM
    have HD := Aside0.mk hD
    have cy := h.y
    have cx := h.x
    have cp := h.b.c0
    have ce := blk_cell g4 (i := 0) rfl
    clear hseq hM hMW h g3 g4 hz1 hMx
    by_cases heU : e < U
    · have hw1 : IntKind.i64.wrap ((U : Int) - e) = (U : Int) - e := IntWalk.i64_in _ (by omega)
      rw [gaps, if_pos heU] at g1
      have HQ := Aside0.mk (show ((gaps 0 bs U).map encP)[pre.length]? = some #[.int .i64 (e : Int), .int .i64 ((U : Int) - e)] by
        rw [List.getElem?_map, g1, List.getElem?_append_right (Nat.le_refl _), Nat.sub_self]
        simp only [List.getElem?_cons_zero, Option.map_some, encP]
        rw [Int.ofNat_sub (by omega)])
      have HQL := Aside0.mk (show pre.length + 1 = (gaps 0 bs U).length by rw [g1, List.length_append]; simp)
      clear g1 g2
      obtain ⟨V, hV⟩ : ∃ V, V = W'.drew.drew := ⟨_, rfl⟩
      have HVB := Aside0.mk (show Below W'.heap.size W' V by rw [hV]; exact ((Below.refl _ _).drew).drew)
      have HVJ := HJ.out M pre.length W' V (by have := HM.out; have := HMW.out; omega) HG3.out (HVB.out.mono (by have := HM.out; have := HMW.out; omega))
      have HYV := Aside0.mk (HY.out M pre.length V _ HQ.out (by have := HM.out; omega) (Nat.le_trans HMW.out HVB.out.size) HVJ)
      clear HVJ
      gi_wp2
      gi_region
      gi_wp2
      rw [hV] at HYV
      refine Ystart_ (m := 9) (S := fun w' => w'.cell? ⟨N, 0, none⟩ = some (.func (.yield l) #[] #[]) ∧ w'.cell? ⟨N + 1, 0, none⟩ = some (.int .i64 (e : Int)) ∧ w'.cell? ⟨bx, 0, none⟩ = some (.pointer (some ⟨p, 0, none⟩)) ∧ w'.cell? ⟨p, 0, none⟩ = some (.int .i64 (U : Int))) (ds := [8]) #[false, false, false, false, false, false, false, false, false] (by kernel_rfl) rfl rfl (fun _ => trivial) (by kernel_rfl) ⟨cy, ce, cx, cp⟩ (fun hHeld => ?_)
      refine Ytake_ (i := 0) (N := some 31) (v := ?_) (a' := ?_) #[true, false, false, false, false, false, false, false, false] rfl rfl (by kernel_rfl) (fun _ _ _ h => h) (Or.inl ⟨by rfl, ?_⟩) hHeld ?_ ?_
      rotate_left
      · rintro w' ⟨s0, s1, s2, s3⟩
        go_simp
        with_reducible rfl
      rotate_left
      · simp only [Act.put, List.setIfInBounds_toArray, List.set_cons_zero, List.set_cons_succ, i64_w, i32_w]
        rfl
      refine Ytake_ (i := 1) (N := some 32) (v := ?_) (a' := ?_) #[true, true, false, false, false, false, false, false, false] rfl rfl (by kernel_rfl) (fun _ _ _ h => h) (Or.inl ⟨by rfl, ?_⟩) hHeld ?_ ?_
      rotate_left
      · rintro w' ⟨s0, s1, s2, s3⟩
        go_simp
        with_reducible rfl
      rotate_left
      · simp only [Act.put, List.setIfInBounds_toArray, List.set_cons_zero, List.set_cons_succ, i64_w, i32_w]
        rfl
      refine Ytake_ (i := 2) (N := some 33) (v := ?_) (a' := ?_) #[true, true, true, false, false, false, false, false, false] rfl rfl (by kernel_rfl) (fun _ _ _ h => h) (Or.inl ⟨by rfl, ?_⟩) hHeld ?_ ?_
      rotate_left
      · rintro w' ⟨s0, s1, s2, s3⟩
        go_simp
        with_reducible rfl
      rotate_left
      · simp only [Act.put, List.setIfInBounds_toArray, List.set_cons_zero, List.set_cons_succ, i64_w, i32_w]
        rfl
      refine Ypure_ (i := 3) (N := some 34) (v := ?_) (a' := ?_) #[true, true, true, true, false, false, false, false, false] rfl rfl (by kernel_rfl) (fun _ _ _ h => h) (Or.inl ⟨by rfl, ?_⟩) ?_ ?_
      rotate_left
      · intro w'
        go_simp
        with_reducible rfl
      rotate_left
      · simp only [Act.put, List.setIfInBounds_toArray, List.set_cons_zero, List.set_cons_succ, i64_w, i32_w]
        rfl
      refine Ypure_ (i := 4) (N := some 35) (v := ?_) (a' := ?_) #[true, true, true, true, true, false, false, false, false] rfl rfl (by kernel_rfl) (fun _ _ _ h => h) (Or.inl ⟨by rfl, ?_⟩) ?_ ?_
      rotate_left
      · intro w'
        go_simp
        with_reducible rfl
      rotate_left
      · simp only [Act.put, List.setIfInBounds_toArray, List.set_cons_zero, List.set_cons_succ, i64_w, i32_w]
        rfl
      refine Ytake_ (i := 5) (N := some 36) (v := ?_) (a' := ?_) #[true, true, true, true, true, true, false, false, false] rfl rfl (by kernel_rfl) (fun _ _ _ h => h) (Or.inl ⟨by rfl, ?_⟩) hHeld ?_ ?_
      rotate_left
      · rintro w' ⟨s0, s1, s2, s3⟩
        go_simp
        with_reducible rfl
      rotate_left
      · simp only [Act.put, List.setIfInBounds_toArray, List.set_cons_zero, List.set_cons_succ, i64_w, i32_w]
        rfl
      refine Ytake_ (i := 6) (N := some 37) (v := ?_) (a' := ?_) #[true, true, true, true, true, true, true, false, false] rfl rfl (by kernel_rfl) (fun _ _ _ h => h) (Or.inl ⟨by rfl, ?_⟩) hHeld ?_ ?_
      rotate_left
      · rintro w' ⟨s0, s1, s2, s3⟩
        go_simp
        with_reducible rfl
      rotate_left
      · simp only [Act.put, List.setIfInBounds_toArray, List.set_cons_zero, List.set_cons_succ, i64_w, i32_w]
        rfl
      refine Ypure_ (i := 7) (N := some 38) (v := ?_) (a' := ?_) #[true, true, true, true, true, true, true, true, false] rfl rfl (by kernel_rfl) (fun _ _ _ h => h) (Or.inl ⟨by rfl, ?_⟩) ?_ ?_
      rotate_left
      · intro w'
        go_simp
        with_reducible rfl
      rotate_left
      · simp only [Act.put, List.setIfInBounds_toArray, List.set_cons_zero, List.set_cons_succ, i64_w, i32_w]
        rfl
      refine Ylast_ (i := 8) (N := some 39) #[true, true, true, true, true, true, true, true, true] rfl rfl (by kernel_rfl) (by decide) (fun K hK => ?_)
      refine Yyield_ (args := #[.int .i64 (e : Int), .int .i64 ((U : Int) - e)]) (by rfl) rfl rfl rfl (by go_simp) HYV.out (.inl rfl) ?_
      intro r W3 hr3
      have hr4 : ∃ b, r = .returned (.bool b) ∧ Aside0 ((J M (pre.length + 1) W3 ∨ Jx M pre.length W3) ∧ KeepI N M (fun _ => False) W'.drew.drew W3) := by
        rcases hr3 with ⟨rfl, h1, h2⟩ | ⟨rfl, h1, h2⟩
        · exact ⟨true, rfl, ⟨.inl h1, h2.mono (Nat.le_refl _) (Nat.le_refl _) (fun b h => h.elim)⟩⟩
        · exact ⟨false, rfl, ⟨.inr h1, h2⟩⟩
      clear hr3
      obtain ⟨b, rfl, HP⟩ := hr4
      refine ⟨.bool b, rfl, ?_⟩
      refine hK.out _ _ ?_
      clear hK K
      refine Ynorm_ (a' := ?_) ?_ ?_
      rotate_left
      · show Act.put _ (some 39) _ = _
        simp only [Act.put, List.setIfInBounds_toArray, List.set_cons_zero, List.set_cons_succ, i64_w, i32_w]
        rfl
      refine Ydone_ (by kernel_rfl) ?_
      have HK := Aside0.mk (HP.out.2)
      gi_wp2
      have hD3 := keep_blk HK.out (b := w1.heap.size) HD.out (.inl ⟨by have := HZ1.out; omega, by have := HZ1.out; have := HM.out; omega⟩)
      have hsz : w1.heap.size < W3.heap.size := (Array.getElem?_eq_some_iff.1 hD3).1
      have HD3 := Aside0.mk hD3
      refine ⟨by simp, .inl ⟨_, _, rfl, run_takeDeferred HD3.out, ?_⟩⟩
      refine ⟨_, results_none rfl _ _ _, ⟨_, rfl⟩, ?_⟩
      have hz := HZ1.out
      rcases HP.out.1 with h | h
      · refine .inl ⟨M, by rw [← HNN.out]; have := HM.out; omega, ?_, ?_⟩
        · have h1 := HK.out.1; have h2 := HVB.out.size; rw [hV] at h2; have h3 := HMW.out; simp; simp at h1 h2; omega
        · rw [List.length_map, ← HQL.out]
          exact HJ.out _ _ _ _ (by omega) h (itB.put (by omega) HD3.out rfl)
      · refine .inr ⟨M, pre.length, by rw [List.length_map, ← HQL.out]; omega, by rw [← HNN.out]; have := HM.out; omega, by rw [← HNN.out]; simp; omega, ?_⟩
        exact HJX.out _ _ _ _ (by omega) h (itB.put (by omega) HD3.out rfl)
    · have hge : e = U := by have : e ≤ U := g2; omega
      rw [gaps, if_neg heU, List.append_nil] at g1
      have HQL := Aside0.mk (show pre.length = (gaps 0 bs U).length by rw [g1])
      clear g1 g2
      gi_wp2
      gi_region
      gi_wp2
      have hz := HZ1.out
      have hsz := HMW.out
      have hm5 := HM.out
      refine ⟨by simp, .inl ⟨_, _, rfl, run_takeDeferred (show W'.drew.heap[w1.heap.size]? = _ from HD.out), ?_⟩⟩
      refine ⟨_, results_none rfl _ _ _, ⟨_, rfl⟩, .inl ⟨M, by rw [← HNN.out]; omega, by simp; exact hsz, ?_⟩⟩
      rw [List.length_map, ← HQL.out]
      exact HJ.out _ _ _ _ (by simp; omega) (HJ.out _ _ _ _ (by omega) HG3.out (itB.grow (by omega) ((Below.refl _ _).drew))) (itB.put (by omega) (show W'.drew.heap[w1.heap.size]? = _ from HD.out) rfl)
  case stop =>
    rintro c M k W' hk hM hMW ⟨rfl, hNM, j, hj, hx⟩ hD
    rw [hz1] at hMW hM
    have HMW := Aside0.mk hMW
    have HX := Aside0.mk hx
    have HD := Aside0.mk hD
    clear hseq
    gi_wp2
    refine ⟨by simp, .inl ⟨_, _, rfl, run_takeDeferred HD.out, ?_⟩⟩
    refine ⟨_, results_none rfl _ _ _, ⟨_, rfl⟩, .inr ⟨M, j, ?_, ?_, ?_, ?_⟩⟩
    · rw [List.length_map]; exact hj
    · rw [← HNN.out]; exact hNM
    · rw [← HNN.out]; simp; omega
    · exact HJX.out _ _ _ _ (by omega) HX.out (itB.put (by omega) HD.out rfl)
end Go.Proofs.Ytgendnoafemgpaa.Hand
namespace Go.Proofs.Ytgendnoafemgpaa.Hand
attribute [local go_sem] Oper.semAt_some
open Go.RowKit Go.Maps Go.Sort Go.Shelf Go.Proofs.YtgendnoafemgpaaW.PrintWords Go.Proofs.YtgendnoafemgpaaW.PrintLast Go.Proofs.YtgendnoafemgpaaW.PrintMore
attribute [local go_sem] max2_int min2_int max_two min_two max_three min_three max_four min_four
set_option linter.unusedVariables false
set_option linter.unusedSimpArgs false
theorem units_calls (w : World) (p s U : Nat) (bs : List Pc) (h : HasB w p s U bs) : Calls Try.prog 37 #[.pointer (some ⟨p, 0, none⟩)] w fun e w' => e = .returned (.int .i64 (U : Int)) ∧ w = w' := by
  have c0 := h.c0
  clear h
  go_enter Try.func37, Try.ntmps37
  go_wp2
  go_ret
  exact ⟨rfl, rfl⟩
theorem long_calls (w : World) (p s U : Nat) (bs : List Pc) (h : HasB w p s U bs) (x : Int) (hx : (Lit.int .i64 x).wf = true) : Calls Try.prog 18 #[.pointer (some ⟨p, 0, none⟩), .int .i64 x] w fun e w' => e = .returned (.int .i64 (longI bs x)) ∧ w = w' := by
  have c1 := h.c1
  have hl := run_look h.map x hx
  clear h hx
  go_enter Try.func18, Try.ntmps18
  go_wp2
  go_ret
  exact ⟨rfl, rfl⟩
theorem free_none (w : World) (p s U : Nat) (bs : List Pc) (h : HasB w p s U bs) (x : Int) (hx : (Lit.int .i64 x).wf = true) (h0 : longI bs x = 0) : Calls Try.prog 20 #[.pointer (some ⟨p, 0, none⟩), .int .i64 x] w fun e w' => e = .returned (.int .i64 101) ∧ w = w' := by
  have c1 := h.c1
  have hl := run_look h.map x hx
  rw [h0] at hl
  clear h hx
  go_enter Try.func20, Try.ntmps20
  go_wp2
  go_ret
  exact ⟨rfl, rfl⟩
theorem key_ok {x : Int} (hx : (Lit.int .i64 x).wf = true) : keyOf Try.prog 3 (.int .i64 x) = some (.int .i64 x) := keyOf_int_mk Try.underlying3 hx
theorem free_one (w : World) (p s U : Nat) (bs : List Pc) (h : HasB w p s U bs) (x : Nat) (hx : 0 < longN bs x) : Calls Try.prog 20 #[.pointer (some ⟨p, 0, none⟩), .int .i64 (x : Int)] w fun e w' => e = .returned (.int .i64 0) ∧ HasB w' p s U (del x bs) ∧ Fr (fun b => b = s) w w' := by
  have c1 := h.c1
  have hlt := h.ok.mem_longN hx
  have hmx := h.max
  have hwf := wf_nat (k := x) (by omega)
  have hl := run_look h.map x hwf
  rw [longI_nat] at hl
  have hne : ((longN bs x : Int) == 0) = false := by simp; omega
  have hne2 : ¬ ((longN bs x : Nat) : Int) = 0 := by omega
  have HKY := Aside0.mk (key_ok hwf)
  have HM := Aside0.mk h.map
  have HH := Aside0.mk h
  clear h hx hwf hlt hmx
  go_enter Try.func20, Try.ntmps20
  go_wp2_with (at_delete; refine wpList_del rfl (.tmp 15) (.tmp 16) 56 rfl law_intB Try.underlying56 rfl HM.out (.int .i64 (x : Int)) (.int .i64 (x : Int)) rfl HKY.out ?_; intro w2 hm2 ht2; have HM2 := Aside0.mk hm2; have HT2 := Aside0.mk ht2; clear hm2 ht2)
  go_ret
  have hf : Fr (fun b => b = s) w w2 := HT2.out.fr rfl
  exact ⟨rfl, ⟨hf.get HH.out.ptr (fun e => HH.out.ne e), HM2.out.congr (delF_bk bs x), chain_del HH.out.ok, HH.out.max⟩, hf⟩
theorem new_bad (w : World) (x : Int) (hx : x < 0 ∨ 1024 < x) : Calls Try.prog 10 #[.int .i64 x] w fun e w' => e = .returned (.tuple #[.pointer none, .int .i64 1]) ∧ w = w' := by
  go_enter Try.func10, Try.ntmps10
  rcases hx with hx | hx
  · go_wp2
    go_ret2
    exact ⟨rfl, rfl⟩
  · by_cases h0 : x < 0
    · go_wp2
      go_ret2
      exact ⟨rfl, rfl⟩
    · go_wp2
      go_ret2
      exact ⟨rfl, rfl⟩
theorem new_good (w : World) (U : Nat) (hU : U ≤ 1024) : Calls Try.prog 10 #[.int .i64 (U : Int)] w fun e w' => ∃ p s, e = .returned (.tuple #[.pointer (some ⟨p, 0, none⟩), .int .i64 0]) ∧ HasB w' p s U [] ∧ Below w.heap.size w w' ∧ w.heap.size ≤ p ∧ w.heap.size ≤ s := by
  have hmm := @run_makeMap Try.prog
  have h0 : ¬ ((U : Int) < 0) := by omega
  have h1 : ¬ ((U : Int) > 1024) := by omega
  go_enter Try.func10, Try.ntmps10
  go_wp2
  go_ret2
  have hm := MapF.of_own (World.ownsMap_made w Try.prog 3 heldR) (f := bkF []) (fun kl => ⟨by cases kl <;> simp [has, bkF, longN] <;> (try split) <;> rfl, fun v h => by
    have : (bkF [] kl).isSome = true := by rw [h]; rfl
    obtain ⟨k, _, hk⟩ := bkF_some this
    simp [longN] at hk⟩)
  refine ⟨w.heap.size + 1, rfl, w.heap.size, ⟨alloc_two w _ _, hm.below (below_alloc (Below.refl _ _) _), Nat.zero_le _, hU⟩, below_alloc (below_alloc (Below.refl _ _) _) _, by omega, Nat.le_refl _⟩
def gsum (gs : List Pc) : Nat := (gs.map (·.2)).sum
theorem gsum_snoc (gs : List Pc) (g : Pc) : gsum (gs ++ [g]) = gsum gs + g.2 := by simp [gsum]
theorem gsum_append (xs ys : List Pc) : gsum (xs ++ ys) = gsum xs + gsum ys := by simp [gsum]
theorem gsum_le : ∀ {bs : List Pc} {e U : Nat}, Chain e bs U → gsum (gaps e bs U) + e + gsum bs = U
  | [], e, U, h => by
    have : e ≤ U := h
    rw [gaps]
    split <;> simp [gsum] <;> omega
  | q :: l, e, U, h => by
    have ih := gsum_le h.2.2
    have h1 := h.1
    have hc : gsum (q :: l) = q.2 + gsum l := by simp [gsum]
    rw [gaps, gsum_append, hc]
    split
    · have : gsum [(e, q.1 - e)] = q.1 - e := by simp [gsum]
      omega
    · have : gsum ([] : List Pc) = 0 := rfl
      omega
theorem gsum_take (gs : List Pc) (k : Nat) : gsum (gs.take k) ≤ gsum gs := by
  have := gsum_append (gs.take k) (gs.drop k)
  rw [List.take_append_drop] at this
  omega
theorem take_snoc {gs : List Pc} {k : Nat} {g : Pc} (h : gs[k]? = some g) : gs.take (k + 1) = gs.take k ++ [g] := by
  rw [List.take_add_one, h]
  rfl
set_option maxHeartbeats 4000000 in
theorem used_calls (w : World) (p s U : Nat) (bs : List Pc) (h : HasB w p s U bs) : Calls Try.prog 14 #[.pointer (some ⟨p, 0, none⟩)] w fun e w' => e = .returned (.int .i64 ((gsum bs : Nat) : Int)) ∧ Below w.heap.size w w' := by
  have c0 := h.c0
  have hs := gsum_le h.ok
  have hm := h.max
  have HH := Aside0.mk h
  have cH := fun (w : World) => callsIn_wide (n := 14).2 (holes_calls w p)
  have hfH : Fence.wide.fn 32 := trivial
  obtain ⟨gs, hgs⟩ : ∃ gs, gs = gaps 0 bs U := ⟨_, rfl⟩
  rw [← hgs] at hs
  have HS := Aside0.mk hs
  have HG := Aside0.mk hgs
  clear h hs hgs
  refine (callsIn_wide (n := 15)).1 ?_
  refine callsIn_of_wp_marks Try.func14 rfl trivial ?_ rfl
  simp only [Try.ntmps14, List.size_toArray, List.length_cons, List.length_nil, Nat.reduceAdd, Nat.reduceSub, Array.replicate_succ, Array.replicate_zero, List.push_toArray, List.append_toArray, List.nil_append, List.cons_append]
  gi_wp2_with (gi_at_call 32; refine (cH _).mono ?_; rintro e w' ⟨rfl, rfl⟩)
  clear cH hfH c0
  obtain ⟨w1, hw1⟩ : ∃ w1, w1 = (w.alloc (.cells #[.int .i64 (U : Int)] 3)).alloc (.cells #[.pointer (some ⟨p, 0, none⟩)] 23) := ⟨_, rfl⟩
  rw [← hw1]
  obtain ⟨N, hN⟩ : ∃ N, N = w.heap.size := ⟨_, rfl⟩
  have HN := Aside0.mk hN
  have hz1 : w1.heap.size = N + 2 := by rw [hw1, hN]; simp
  have HBW := Aside0.mk (show Below w.heap.size w w1 by rw [hw1]; exact below_alloc (below_alloc (Below.refl _ _) _) _)
  have b0 : w1.heap[N]? = some (.cells #[.int .i64 ((U - gsum (gs.take 0) : Nat) : Int)] 3 (0, 0)) := by
    rw [hw1, hN]; exact old_blk (heap_alloc_new w _) _
  have b1 : w1.heap[N + 1]? = some (.cells #[.pointer (some ⟨p, 0, none⟩)] 23 (0, 0)) := by rw [hw1, hN]; exact alloc_two w _ _
  have HZ := Aside0.mk hz1
  have hlt : p < N ∧ s < N := by rw [hN]; exact ⟨HH.out.p_lt, HH.out.s_lt⟩
  obtain ⟨hp1, hs1⟩ := hlt
  have hseq := holes_seq w1 (N + 1) p s U bs (HH.out.below HBW.out) (blk_cell b1 rfl)
  have HB0 := Aside0.mk b0
  clear hw1 b0 b1
  rw [← hN]
  clear hN
  refine range_listA itB (xs := gaps 0 bs U) (enc := encP) rfl (enters_of Try.func49 (by kernel_rfl) rfl) hseq (Below.refl _ _) (fun b hb => ?_) (fun _ => rfl)
    (fun W' => W'.heap[N]? = some (.cells #[.int .i64 ((U - gsum (gs.take 0) : Nat) : Int)] 3 (0, 0)) ∧ Below N w W') (fun M k W' => W'.heap[N]? = some (.cells #[.int .i64 ((U - gsum (gs.take k) : Nat) : Int)] 3 (0, 0)) ∧ Below N w W') (fun _ _ _ _ => False) ?hI0 ?hI ?hIx ?hstart ?h0 ?a1 ?assign ?body ?done ?stop
  · rcases hb with rfl | rfl | rfl <;> omega
  case hI0 =>
    rintro A B hA ⟨h1, h2⟩ hg
    have hg : Below w1.heap.size A B := hg
    rw [hz1] at hg
    exact ⟨(hg.block _ (by omega)).trans h1, h2.trans (hg.mono (by omega))⟩
  case hI =>
    rintro M k A B hA ⟨h1, h2⟩ hg
    have hg : Below w1.heap.size A B := hg
    rw [hz1] at hg
    exact ⟨(hg.block _ (by omega)).trans h1, h2.trans (hg.mono (by omega))⟩
  case hIx => intro c M k A B hA h; exact h.elim
  case hstart => intro M W' h1 h2 h3; exact h3
  case h0 => exact ⟨HB0.out, by rw [HN.out]; exact HBW.out⟩
  case assign =>
    intro l' x W' K hK
    simp only [encP]
    gi_wp2
    exact hK
  case body =>
    rintro l' M k ⟨a, n⟩ W' hx hM hMW ⟨h1, h2⟩
    rw [← HG.out] at hx
    have hle := gsum_take gs (k + 1)
    rw [take_snoc hx, gsum_snoc] at hle
    have HX := Aside0.mk hx
    have hS := HS.out
    simp only at hle
    have ce := blk_cell h1 (i := 0) rfl
    have cf := blk_free h1 0
    have hw : IntKind.i64.wrap (((U - gsum (gs.take k) : Nat) : Int) - n) = ((U - gsum (gs.take (k + 1)) : Nat) : Int) := by
      rw [IntWalk.i64_in _ (by omega), take_snoc hx, gsum_snoc]
      simp only
      omega
    have H1 := Aside0.mk h1
    have H2 := Aside0.mk h2
    obtain ⟨X, hX⟩ : ∃ X, X = U - gsum (gs.take k) := ⟨_, rfl⟩
    obtain ⟨Y, hY⟩ : ∃ Y, Y = U - gsum (gs.take (k + 1)) := ⟨_, rfl⟩
    rw [← hX] at ce hw
    rw [← hY] at hw
    have HYY := Aside0.mk hY
    clear hx h1 h2 hle hS hseq hM hMW hX hY
    gi_wp2
    rw [HYY.out]
    refine ⟨⟨by simp, fun b hb hs => Below.heap_setCell _ _ _ _ ?_⟩, ?_, H2.out.setCell (p := ⟨N, 0, none⟩) (Nat.le_refl _) _⟩
    · have := HZ.out
      rcases hs with hs | rfl | rfl | rfl <;> (simp only; omega)
    · have := blk_set H1.out 0 (.int .i64 ((U - gsum (gs.take (k + 1)) : Nat) : Int))
      simpa using this
  case done =>
    rintro M W' hM hMW ⟨h1, h2⟩ hD
    rw [← HG.out, List.take_length] at h1
    have hv : U - gsum gs = gsum bs := by have := HS.out; omega
    rw [hv] at h1
    have ce := blk_cell h1 (i := 0) rfl
    have H2 := Aside0.mk h2
    have HD := Aside0.mk hD
    clear hseq h1 h2 hv hD
    gi_wp2
    refine ⟨by simp, .inl ⟨_, _, rfl, run_takeDeferred HD.out, ?_⟩⟩
    refine ⟨_, results_tmp rfl _ _ _, rfl, ?_⟩
    rw [← HN.out]
    exact H2.out.trans (itB.put (by have := HZ.out; omega) HD.out rfl)
  case stop => intro c M k W' _ _ _ h; exact h.elim
def mostN (gs : List Pc) : Nat := gs.foldl (fun m g => max m g.2) 0
theorem most_snoc (gs : List Pc) (g : Pc) : mostN (gs ++ [g]) = max (mostN gs) g.2 := by simp [mostN]
set_option maxHeartbeats 4000000 in
theorem largest_calls (w : World) (p s U : Nat) (bs : List Pc) (h : HasB w p s U bs) : Calls Try.prog 15 #[.pointer (some ⟨p, 0, none⟩)] w fun e w' => e = .returned (.int .i64 ((mostN (gaps 0 bs U) : Nat) : Int)) ∧ Below w.heap.size w w' := by
  have hm := h.max
  have HH := Aside0.mk h
  have cH := fun (w : World) => callsIn_wide (n := 14).2 (holes_calls w p)
  have hfH : Fence.wide.fn 32 := trivial
  obtain ⟨gs, hgs⟩ : ∃ gs, gs = gaps 0 bs U := ⟨_, rfl⟩
  have HG := Aside0.mk hgs
  clear h hgs
  refine (callsIn_wide (n := 15)).1 ?_
  refine callsIn_of_wp_marks Try.func15 rfl trivial ?_ rfl
  simp only [Try.ntmps15, List.size_toArray, List.length_cons, List.length_nil, Nat.reduceAdd, Nat.reduceSub, Array.replicate_succ, Array.replicate_zero, List.push_toArray, List.append_toArray, List.nil_append, List.cons_append]
  gi_wp2_with (gi_at_call 32; refine (cH _).mono ?_; rintro e w' ⟨rfl, rfl⟩)
  clear cH hfH
  obtain ⟨w1, hw1⟩ : ∃ w1, w1 = (w.alloc (.cells #[.int .i64 0] 3)).alloc (.cells #[.pointer (some ⟨p, 0, none⟩)] 23) := ⟨_, rfl⟩
  rw [← hw1]
  obtain ⟨N, hN⟩ : ∃ N, N = w.heap.size := ⟨_, rfl⟩
  have HN := Aside0.mk hN
  have hz1 : w1.heap.size = N + 2 := by rw [hw1, hN]; simp
  have HBW := Aside0.mk (show Below w.heap.size w w1 by rw [hw1]; exact below_alloc (below_alloc (Below.refl _ _) _) _)
  have b0 : w1.heap[N]? = some (.cells #[.int .i64 ((mostN (gs.take 0) : Nat) : Int)] 3 (0, 0)) := by
    rw [hw1, hN]; exact old_blk (heap_alloc_new w _) _
  have b1 : w1.heap[N + 1]? = some (.cells #[.pointer (some ⟨p, 0, none⟩)] 23 (0, 0)) := by rw [hw1, hN]; exact alloc_two w _ _
  have HZ := Aside0.mk hz1
  have hlt : p < N ∧ s < N := by rw [hN]; exact ⟨HH.out.p_lt, HH.out.s_lt⟩
  obtain ⟨hp1, hs1⟩ := hlt
  have hseq := holes_seq w1 (N + 1) p s U bs (HH.out.below HBW.out) (blk_cell b1 rfl)
  have HB0 := Aside0.mk b0
  clear hw1 b0 b1
  rw [← hN]
  clear hN
  refine range_listA itB (xs := gaps 0 bs U) (enc := encP) rfl (enters_of Try.func49 (by kernel_rfl) rfl) hseq (Below.refl _ _) (fun b hb => ?_) (fun _ => rfl)
    (fun W' => W'.heap[N]? = some (.cells #[.int .i64 ((mostN (gs.take 0) : Nat) : Int)] 3 (0, 0)) ∧ Below N w W') (fun M k W' => W'.heap[N]? = some (.cells #[.int .i64 ((mostN (gs.take k) : Nat) : Int)] 3 (0, 0)) ∧ Below N w W') (fun _ _ _ _ => False) ?hI0 ?hI ?hIx ?hstart ?h0 ?a1 ?assign ?body ?done ?stop
  · rcases hb with rfl | rfl | rfl <;> omega
  case hI0 =>
    rintro A B hA ⟨h1, h2⟩ hg
    have hg : Below w1.heap.size A B := hg
    rw [hz1] at hg
    exact ⟨(hg.block _ (by omega)).trans h1, h2.trans (hg.mono (by omega))⟩
  case hI =>
    rintro M k A B hA ⟨h1, h2⟩ hg
    have hg : Below w1.heap.size A B := hg
    rw [hz1] at hg
    exact ⟨(hg.block _ (by omega)).trans h1, h2.trans (hg.mono (by omega))⟩
  case hIx => intro c M k A B hA h; exact h.elim
  case hstart => intro M W' h1 h2 h3; exact h3
  case h0 => exact ⟨HB0.out, by rw [HN.out]; exact HBW.out⟩
  case assign =>
    intro l' x W' K hK
    simp only [encP]
    gi_wp2
    exact hK
  case body =>
    rintro l' M k ⟨a, n⟩ W' hx hM hMW ⟨h1, h2⟩
    rw [← HG.out] at hx
    have hn := (gaps_mem HH.out.ok (a, n) (List.mem_of_getElem? (by rw [← HG.out]; exact hx)))
    have hmx := most_snoc (gs.take k) (a, n)
    rw [← take_snoc hx] at hmx
    simp only at hmx
    have ce := blk_cell h1 (i := 0) rfl
    have cf := blk_free h1 0
    have H1 := Aside0.mk h1
    have H2 := Aside0.mk h2
    obtain ⟨X, hX⟩ : ∃ X, X = mostN (gs.take k) := ⟨_, rfl⟩
    obtain ⟨Y, hY⟩ : ∃ Y, Y = mostN (gs.take (k + 1)) := ⟨_, rfl⟩
    rw [← hX] at ce hmx
    rw [← hY] at hmx
    have hmi : ((Y : Nat) : Int) = max (X : Int) (n : Int) := by rw [hmx]; omega
    have HMI := Aside0.mk hmi
    have HYY := Aside0.mk hY
    clear hx h1 h2 hmx hmi hn hseq hM hMW hX hY
    by_cases hxn : X < n
    · gi_wp2
      refine ⟨⟨by simp, fun b hb hs => Below.heap_setCell _ _ _ _ ?_⟩, ?_, H2.out.setCell (p := ⟨N, 0, none⟩) (Nat.le_refl _) _⟩
      · have := HZ.out
        rcases hs with hs | rfl | rfl | rfl <;> (simp only; omega)
      · have h := blk_set H1.out 0 (.int .i64 (n : Int))
        have hv : (n : Int) = ((mostN (gs.take (k + 1)) : Nat) : Int) := by have := HMI.out; rw [← HYY.out]; omega
        rw [← hv]
        simpa using h
    · gi_wp2
      refine ⟨⟨by simp, fun b hb hs => Below.heap_setCell _ _ _ _ ?_⟩, ?_, H2.out.setCell (p := ⟨N, 0, none⟩) (Nat.le_refl _) _⟩
      · have := HZ.out
        rcases hs with hs | rfl | rfl | rfl <;> (simp only; omega)
      · have h := blk_set H1.out 0 (.int .i64 (X : Int))
        have hv : (X : Int) = ((mostN (gs.take (k + 1)) : Nat) : Int) := by have := HMI.out; rw [← HYY.out]; omega
        rw [← hv]
        simpa using h
  case done =>
    rintro M W' hM hMW ⟨h1, h2⟩ hD
    rw [← HG.out, List.take_length] at h1
    have ce := blk_cell h1 (i := 0) rfl
    have H2 := Aside0.mk h2
    have HD := Aside0.mk hD
    clear hseq h1 h2 hD
    gi_wp2
    refine ⟨by simp, .inl ⟨_, _, rfl, run_takeDeferred HD.out, ?_⟩⟩
    refine ⟨_, results_tmp rfl _ _ _, by rw [HG.out]; rfl, ?_⟩
    rw [← HN.out]
    exact H2.out.trans (itB.put (by have := HZ.out; omega) HD.out rfl)
  case stop => intro c M k W' _ _ _ h; exact h.elim
end Go.Proofs.Ytgendnoafemgpaa.Hand
namespace Go.Proofs.Ytgendnoafemgpaa.Hand
attribute [local go_sem] Oper.semAt_some
open Go.RowKit Go.Maps Go.Sort Go.Shelf Go.Proofs.YtgendnoafemgpaaW.PrintWords Go.Proofs.YtgendnoafemgpaaW.PrintLast
set_option linter.unusedVariables false
set_option linter.unusedSimpArgs false
section
variable {F : Fence} {n : Nat} {P : Program} {ops : Array Oper} {Q : Exit → Act → World → Prop} {k e : TypeId} {b : Nat} {f : Lit → Option Value}
theorem Yupd_ {oi : Oper} {N : Option Tmp} {a : Act} {w : World} {K : Act → World → Prop} {t : TypeId} {m x v : Operand} (hw : Region.wanted oi (yielded ops a.tmps) = true) (hN : oi.dst = N) (hop : oi.op = Op.mapUpdate t m x v) (hk : Keyed P k) (ht : P.underlying t = some (.map k e)) (r : Nat) (hr : r < maxLen)
    (hm : a.eval m = .map (some b)) (hown : MapF P k w b f) (hroom : RoomF f r) {key val : Value} {kl : Lit} (hx : a.eval x = key) (hv : a.eval v = val) (hkey : keyOf P k key = some kl)
    (h : ∀ w', MapF P k w' b (updF f kl val) → w.mapTurned w' b → K (a.put N undef) w') : if Region.wanted oi (yielded ops a.tmps) = true then wpY F n P oi a w K Q else K (a.put N undef) w := by
  rw [if_pos hw]
  subst hN
  obtain ⟨w', hrun, h1, h2⟩ := hown.upd hk ht hroom hr (val := val) hkey
  have he : (execOp a.eval oi).run P w = .ok .skip w' := by
    unfold execOp
    simp [hop, hm, hx, hv, hrun, Result.andThen]
  unfold wpY
  rw [he, Oper.uponIn_skip]
  exact h w' h1 h2
end
theorem load_c1 {P : Program} (w : World) (g : Nat) (ty : TypeId) {u : Value} {fr : Nat × Nat} {t : TypeId} (d : TypeDesc) (hc : w.heap[g]? = some (.cells #[u] t fr)) (hu : P.underlying ty = some d) (hd : (match d with | .struct _ | .array _ _ => true | _ => false) = false) :
    (loadVar ty ⟨g, 0, none⟩).run P w = .ok u w := loadVar_one w g ty d (blk_cell hc rfl) hu hd
theorem results_c1 {P : Program} {fn : Func} {p : Tmp} {ty : TypeId} (h : fn.results = #[.cell p ty]) (tmps : Array Value) (w : World) (g : Nat) {v : Value} {t : TypeId} {fr : Nat × Nat} (d : TypeDesc)
    (hp : tmps.getD p undef = .pointer (some ⟨g, 0, none⟩)) (hc : w.heap[g]? = some (.cells #[v] t fr)) (hu : P.underlying ty = some d) (hd : (match d with | .struct _ | .array _ _ => true | _ => false) = false) :
    (results fn tmps).run P w = .ok v w := by
  have h1 := load_c1 (P := P) w g ty d hc hu hd
  have hp2 : tmps[p]?.getD undef = .pointer (some ⟨g, 0, none⟩) := by simpa using hp
  simp [results, h, hp2, asAddr, h1]
theorem results_c2 {P : Program} {fn : Func} {p q : Tmp} {ty tz : TypeId} (h : fn.results = #[.cell p ty, .cell q tz]) (tmps : Array Value) (w : World) (g g' : Nat) {v v' : Value} {t t' : TypeId} {fr fr' : Nat × Nat} (d d' : TypeDesc)
    (hp : tmps.getD p undef = .pointer (some ⟨g, 0, none⟩)) (hc : w.heap[g]? = some (.cells #[v] t fr)) (hu : P.underlying ty = some d) (hd : (match d with | .struct _ | .array _ _ => true | _ => false) = false)
    (hp' : tmps.getD q undef = .pointer (some ⟨g', 0, none⟩)) (hc' : w.heap[g']? = some (.cells #[v'] t' fr')) (hu' : P.underlying tz = some d') (hd' : (match d' with | .struct _ | .array _ _ => true | _ => false) = false) :
    (results fn tmps).run P w = .ok (.tuple #[v, v']) w := by
  have h1 := load_c1 (P := P) w g ty d hc hu hd
  have h2 := load_c1 (P := P) w g' tz d' hc' hu' hd'
  have hp2 : tmps[p]?.getD undef = .pointer (some ⟨g, 0, none⟩) := by simpa using hp
  have hp3 : tmps[q]?.getD undef = .pointer (some ⟨g', 0, none⟩) := by simpa using hp'
  simp [results, h, hp2, hp3, asAddr, h1, h2, Sem.run_bind, Result.andThen]
theorem find_take {α : Type} {P : α → Bool} {gs : List α} {k : Nat} {g : α} (h : (gs.take k).find? P = none) (hg : gs[k]? = some g) (hp : P g = true) : gs.find? P = some g := by
  have e : gs = gs.take k ++ gs.drop k := (List.take_append_drop k gs).symm
  obtain ⟨hlt, he⟩ := List.getElem?_eq_some_iff.1 hg
  rw [e, List.find?_append, h, List.drop_eq_getElem_cons hlt, he, List.find?_cons, hp]
  rfl
theorem find_take_none {α : Type} {P : α → Bool} {gs : List α} {k : Nat} {g : α} (h : (gs.take k).find? P = none) (hg : gs[k]? = some g) (hp : P g = false) : (gs.take (k + 1)).find? P = none := by
  rw [List.take_add_one, hg, List.find?_append, h]
  simp [hp]
/-- Among the first k none fits. -/
def NoneF (P : Pc → Bool) (gs : List Pc) (k : Nat) : Prop := (gs.take k).find? P = none
def SomeF (P : Pc → Bool) (gs : List Pc) (g : Pc) : Prop := gs.find? P = some g
def takeP (n : Int) (g : Pc) : Bool := decide (n ≤ (g.2 : Int))
def TakeOut (w : World) (p s U : Nat) (bs : List Pc) (n : Int) (e : Ending) (w' : World) : Prop :=
  match (gaps 0 bs U).find? (takeP n) with
  | none => e = .returned (.tuple #[.int .i64 0, .int .i64 100]) ∧ HasB w' p s U bs ∧ Fr (fun b => b = s) w w'
  | some g => e = .returned (.tuple #[.int .i64 (g.1 : Int), .int .i64 0]) ∧ HasB w' p s U (ins g.1 n.toNat bs) ∧ Fr (fun b => b = s) w w'
theorem take_bad (w : World) (p : Nat) (n : Int) (hn : n < 1) : Calls Try.prog 19 #[.pointer (some ⟨p, 0, none⟩), .int .i64 n] w fun e w' => e = .returned (.tuple #[.int .i64 0, .int .i64 1]) ∧ Below w.heap.size w w' := by
  go_enter Try.func19, Try.ntmps19
  go_wp2
  refine bodyPost_ret (results_c2 rfl _ _ (w.heap.size + 1 + 1) (w.heap.size + 1 + 1 + 1) (v := .int .i64 0) (v' := .int .i64 1) (t := 3) (t' := 24) (fr := (0, 0)) (fr' := (0, 0)) _ _ rfl ?_ Try.underlying3 rfl rfl ?_ Try.underlying24 rfl) rfl ⟨rfl, ?_⟩
  · exact old_blk (alloc_three w _ _ _ |> fun h => by simpa using h) _
  · have := alloc_two ((w.alloc (.cells #[.pointer (some ⟨p, 0, none⟩)] 23)).alloc (.cells #[.int .i64 n] 3)) (.cells #[.int .i64 0] 3) (.cells #[.int .i64 1] 24)
    simpa using this
  · exact below_alloc (below_alloc (below_alloc (below_alloc (Below.refl _ _) _) _) _) _
set_option maxRecDepth 100000 in
set_option maxHeartbeats 4000000 in
theorem take_calls (w : World) (p s U : Nat) (bs : List Pc) (h : HasB w p s U bs) (n : Int) (hn : 1 ≤ n) (hwf : (Lit.int .i64 n).wf = true) : Calls Try.prog 19 #[.pointer (some ⟨p, 0, none⟩), .int .i64 n] w (TakeOut w p s U bs n) := by
  have HH := Aside0.mk h
  have HWF := Aside0.mk hwf
  have cH := fun (w : World) => callsIn_wide (n := 14).2 (holes_calls w p)
  have hfH : Fence.wide.fn 32 := trivial
  obtain ⟨gs, hgs⟩ : ∃ gs, gs = gaps 0 bs U := ⟨_, rfl⟩
  have HG := Aside0.mk hgs
  obtain ⟨Po, hPo⟩ : ∃ Po, Po = TakeOut w p s U bs n := ⟨_, rfl⟩
  have HPO := Aside0.mk hPo
  rw [← hPo]
  clear h hgs hwf hPo
  refine (callsIn_wide (n := 15)).1 ?_
  refine callsIn_of_wp_marks Try.func19 rfl trivial ?_ rfl
  simp only [Try.ntmps19, List.size_toArray, List.length_cons, List.length_nil, Nat.reduceAdd, Nat.reduceSub, Array.replicate_succ, Array.replicate_zero, List.push_toArray, List.append_toArray, List.nil_append, List.cons_append]
  gi_wp2_with (gi_at_call 32; refine (cH _).mono ?_; rintro e w' ⟨rfl, rfl⟩)
  clear cH hfH
  obtain ⟨w1, hw1⟩ : ∃ w1, w1 = (((((w.alloc (.cells #[.pointer (some ⟨p, 0, none⟩)] 23)).alloc (.cells #[.int .i64 n] 3)).alloc (.cells #[.int .i64 0] 3)).alloc (.cells #[.int .i64 0] 24)).alloc (.cells #[.pointer (some ⟨p, 0, none⟩)] 23)) := ⟨_, rfl⟩
  rw [← hw1]
  obtain ⟨N, hN⟩ : ∃ N, N = w.heap.size := ⟨_, rfl⟩
  have HN := Aside0.mk hN
  have hz1 : w1.heap.size = N + 5 := by rw [hw1, hN]; simp
  have HBW := Aside0.mk (show Below w.heap.size w w1 by rw [hw1]; exact below_alloc (below_alloc (below_alloc (below_alloc (below_alloc (Below.refl _ _) _) _) _) _) _)
  have b0 : w1.heap[N]? = some (.cells #[.pointer (some ⟨p, 0, none⟩)] 23 (0, 0)) := by rw [hw1, hN]; exact old_blk (old_blk (old_blk (old_blk (heap_alloc_new w _) _) _) _) _
  have b1 : w1.heap[N + 1]? = some (.cells #[.int .i64 n] 3 (0, 0)) := by rw [hw1, hN]; exact old_blk (old_blk (old_blk (alloc_two w _ _) _) _) _
  have b2 : w1.heap[N + 2]? = some (.cells #[.int .i64 0] 3 (0, 0)) := by rw [hw1, hN]; exact old_blk (old_blk (alloc_three w _ _ _) _) _
  have b3 : w1.heap[N + 3]? = some (.cells #[.int .i64 0] 24 (0, 0)) := by
    rw [hw1, hN]
    have := alloc_two ((w.alloc (.cells #[.pointer (some ⟨p, 0, none⟩)] 23)).alloc (.cells #[.int .i64 n] 3)) (.cells #[.int .i64 0] 3) (.cells #[.int .i64 0] 24)
    refine old_blk ?_ _
    simpa using this
  have b4 : w1.heap[N + 4]? = some (.cells #[.pointer (some ⟨p, 0, none⟩)] 23 (0, 0)) := by
    rw [hw1, hN]
    have := alloc_three ((w.alloc (.cells #[.pointer (some ⟨p, 0, none⟩)] 23)).alloc (.cells #[.int .i64 n] 3)) (.cells #[.int .i64 0] 3) (.cells #[.int .i64 0] 24) (.cells #[.pointer (some ⟨p, 0, none⟩)] 23)
    simpa using this
  have HZ := Aside0.mk hz1
  have hlt : p < N ∧ s < N := by rw [hN]; exact ⟨HH.out.p_lt, HH.out.s_lt⟩
  obtain ⟨hp1, hs1⟩ := hlt
  have hseq := holes_seq w1 (N + 4) p s U bs (HH.out.below HBW.out) (blk_cell b4 rfl)
  have HB0 := Aside0.mk b0
  have HB1 := Aside0.mk b1
  have HB2 := Aside0.mk b2
  have HB3 := Aside0.mk b3
  clear hw1 b0 b1 b2 b3 b4
  rw [← hN]
  clear hN
  refine range_listA itB (xs := gaps 0 bs U) (enc := encP) rfl (enters_of Try.func49 (by kernel_rfl) rfl) hseq (Below.refl _ _) (fun b hb => ?_) (fun _ => rfl)
    (fun W' => Below (N + 5) w1 W') (fun M k W' => Below (N + 5) w1 W' ∧ NoneF (takeP n) gs k)
    (fun c M k W' => c = .ret ∧ ∃ g : Pc, SomeF (takeP n) gs g ∧ HasB W' p s U (ins g.1 n.toNat bs) ∧ Fr (fun b => b = s) w W' ∧ W'.heap[N + 2]? = some (.cells #[.int .i64 (g.1 : Int)] 3 (0, 0)) ∧ W'.heap[N + 3]? = some (.cells #[.int .i64 0] 24 (0, 0))) ?hI0 ?hI ?hIx ?hstart ?h0 ?a1 ?assign ?body ?done ?stop
  · rcases hb with rfl | rfl | rfl <;> omega
  case hI0 =>
    rintro A B hA h1 hg
    have hg : Below w1.heap.size A B := hg
    rw [hz1] at hg
    exact h1.trans hg
  case hI =>
    rintro M k A B hA ⟨h1, h2⟩ hg
    have hg : Below w1.heap.size A B := hg
    rw [hz1] at hg
    exact ⟨h1.trans hg, h2⟩
  case hIx =>
    rintro c M k A B hA ⟨rfl, g, h1, h2, h3, h4, h5⟩ hg
    have hg : Below w1.heap.size A B := hg
    rw [hz1] at hg
    refine ⟨rfl, g, h1, h2.same (hg.block _ (by omega)) (hg.block _ (by omega)), h3.trans (T := fun b => N + 5 ≤ b) ⟨hg.os, hg.tape, hg.output, hg.size, fun b _ hb => hg.block b (by omega)⟩ (fun b hb hl => ?_), (hg.block _ (by omega)).trans h4, (hg.block _ (by omega)).trans h5⟩
    rw [← HN.out] at hl; omega
  case hstart => intro M W' h1 h2 h3; exact ⟨h3, rfl⟩
  case h0 => exact Below.refl _ _
  case assign =>
    intro l' x W' K hK
    simp only [encP]
    gi_wp2
    exact hK
  case body =>
    rintro l' M k ⟨a, m⟩ W' hx hM hMW ⟨h1, h2⟩
    rw [← HG.out] at hx
    have hgm := gaps_mem HH.out.ok (a, m) (List.mem_of_getElem? (by rw [← HG.out]; exact hx))
    have hmx := HH.out.max
    simp only at hgm
    have k0 := (h1.block N (by omega)).trans HB0.out
    have k1 := (h1.block (N + 1) (by omega)).trans HB1.out
    have k2 := (h1.block (N + 2) (by omega)).trans HB2.out
    have k3 := (h1.block (N + 3) (by omega)).trans HB3.out
    have HBj := Aside0.mk ((HH.out.below HBW.out).same (h1.block p (by omega)) (h1.block s (by omega)))
    have HK2 := Aside0.mk k2
    have HK3 := Aside0.mk k3
    have H1 := Aside0.mk h1
    have HX := Aside0.mk hx
    have HMW := Aside0.mk hMW
    have HM := Aside0.mk hM
    have c0 := blk_cell k0 (i := 0) rfl
    have c1 := blk_cell k1 (i := 0) rfl
    have cp := HBj.out.c1
    clear hseq h1 hx k0 k1 k2 k3 hM hMW hz1
    by_cases hnm : n ≤ (m : Int)
    · have HFD := Aside0.mk (find_take h2 HX.out (by simp [takeP, hnm]))
      gi_wp2
      obtain ⟨nn, rfl⟩ : ∃ nn : Nat, n = nn := ⟨n.toNat, by omega⟩
      have HLN := Aside0.mk (show longN bs a = 0 from by
        have hg0 := gaps_mem HH.out.ok (a, m) (List.mem_of_getElem? (by rw [← HG.out]; exact HX.out))
        rcases Nat.eq_zero_or_pos (longN bs a) with h0 | h0
        · exact h0
        · obtain ⟨q, hq, hqa⟩ := (longN_pos HH.out.ok).1 h0
          have hz := (own_gap HH.out.ok (Nat.zero_le a) (by omega)).2 ⟨(a, m), List.mem_of_getElem? (by rw [← HG.out]; exact HX.out), Nat.le_refl _, by simp only; omega⟩
          exact absurd hz (own_start HH.out.ok hq hqa))
      have HKY := Aside0.mk (key_ok (wf_nat (k := a) (by omega)))
      refine Ystart_ (m := 7) (S := fun w' => w'.cell? ⟨N, 0, none⟩ = some (.pointer (some ⟨p, 0, none⟩)) ∧ w'.cell? ⟨N + 1, 0, none⟩ = some (.int .i64 (nn : Int)) ∧ w'.cell? ⟨p, 1, none⟩ = some (.map (some s))) (ds := [6]) #[false, false, false, false, false, false, false] (by kernel_rfl) rfl rfl (fun _ => trivial) (by kernel_rfl) ⟨c0, c1, cp⟩ (fun hHeld => ?_)
      refine Ypure_ (i := 4) (N := some 21) (v := ?_) (a' := ?_) #[false, false, false, false, true, false, false] rfl rfl (by kernel_rfl) (fun _ _ _ h => h) (Or.inl ⟨by rfl, ?_⟩) ?_ ?_
      rotate_left
      · intro w'
        go_simp
        with_reducible rfl
      rotate_left
      · simp only [Act.put, List.setIfInBounds_toArray, List.set_cons_zero, List.set_cons_succ, i64_w, i32_w]
        rfl
      refine Ytake_ (i := 0) (N := some 17) (v := ?_) (a' := ?_) #[true, false, false, false, true, false, false] rfl rfl (by kernel_rfl) (fun _ _ _ h => h) (Or.inl ⟨by rfl, ?_⟩) hHeld ?_ ?_
      rotate_left
      · rintro w' ⟨s0, s1, s2⟩
        go_simp
        with_reducible rfl
      rotate_left
      · simp only [Act.put, List.setIfInBounds_toArray, List.set_cons_zero, List.set_cons_succ, i64_w, i32_w]
        rfl
      refine Ypure_ (i := 1) (N := some 18) (v := ?_) (a' := ?_) #[true, true, false, false, true, false, false] rfl rfl (by kernel_rfl) (fun _ _ _ h => h) (Or.inl ⟨by rfl, ?_⟩) ?_ ?_
      rotate_left
      · intro w'
        go_simp
        with_reducible rfl
      rotate_left
      · simp only [Act.put, List.setIfInBounds_toArray, List.set_cons_zero, List.set_cons_succ, i64_w, i32_w]
        rfl
      refine Ypure_ (i := 2) (N := some 19) (v := ?_) (a' := ?_) #[true, true, true, false, true, false, false] rfl rfl (by kernel_rfl) (fun _ _ _ h => h) (Or.inl ⟨by rfl, ?_⟩) ?_ ?_
      rotate_left
      · intro w'
        go_simp
        with_reducible rfl
      rotate_left
      · simp only [Act.put, List.setIfInBounds_toArray, List.set_cons_zero, List.set_cons_succ, i64_w, i32_w]
        rfl
      refine Ytake_ (i := 3) (N := some 20) (v := ?_) (a' := ?_) #[true, true, true, true, true, false, false] rfl rfl (by kernel_rfl) (fun _ _ _ h => h) (Or.inl ⟨by rfl, ?_⟩) hHeld ?_ ?_
      rotate_left
      · rintro w' ⟨s0, s1, s2⟩
        go_simp
        with_reducible rfl
      rotate_left
      · simp only [Act.put, List.setIfInBounds_toArray, List.set_cons_zero, List.set_cons_succ, i64_w, i32_w]
        rfl
      refine Ytake_ (i := 5) (N := some 22) (v := ?_) (a' := ?_) #[true, true, true, true, true, true, false] rfl rfl (by kernel_rfl) (fun _ _ _ h => h) (Or.inl ⟨by rfl, ?_⟩) hHeld ?_ ?_
      rotate_left
      · rintro w' ⟨s0, s1, s2⟩
        go_simp
        with_reducible rfl
      rotate_left
      · simp only [Act.put, List.setIfInBounds_toArray, List.set_cons_zero, List.set_cons_succ, i64_w, i32_w]
        rfl
      refine Ylast_ (i := 6) (N := none) #[true, true, true, true, true, true, true] rfl rfl (by kernel_rfl) (by decide) (fun K hK => ?_)
      refine Yupd_ (by rfl) rfl rfl law_intB Try.underlying56 1024 (by decide) rfl (HBj.out.map.same rfl) (by obtain ⟨L, h1, h2⟩ := bk_room HBj.out.ok; exact ⟨L, by omega, h2⟩) (key := .int .i64 (a : Int)) (val := .int .i64 (nn : Int)) (kl := .int .i64 (a : Int)) rfl rfl HKY.out ?_
      intro w3 hm3 ht3
      have HM3 := Aside0.mk hm3
      have HT3 := Aside0.mk ht3
      clear hm3 ht3
      refine hK.out _ _ ?_
      clear hK K
      refine Ydone_ (by kernel_rfl) ?_
      have HF3 := Aside0.mk (show Fr (fun b => b = s) W' w3 from (Fr.refl _ W').drew.trans' (HT3.out.fr rfl))
      have k2 := HF3.out.get HK2.out (by omega)
      have k3 := HF3.out.get HK3.out (by omega)
      have f2 := blk_free k2 0
      have f3 := blk_free k3 0
      have d2 := blk_cell k2 (i := 0) rfl
      have d3 := blk_cell k3 (i := 0) rfl
      have K2 := Aside0.mk k2
      have K3 := Aside0.mk k3
      clear k2 k3 c0 c1 cp
      gi_wp2
      have HFS := Aside0.mk (show Fr (fun b => b = N + 2 ∨ b = N + 3) w3 ((w3.setCell ⟨N + 2, 0, none⟩ (.int .i64 (a : Int))).setCell ⟨N + 3, 0, none⟩ (.int .i64 0)) from ((Fr.refl _ w3).setCell (.inl (.inl rfl)) _).setCell (.inl (.inr rfl)) _)
      have hz := HZ.out
      refine ⟨KeepI.of_fr ((HF3.out.mono (T := fun b => b = s ∨ b = N + 2 ∨ b = N + 3) (fun b h => .inl h)).trans' (HFS.out.mono (fun b h => .inr h))) (fun b hb ht hc => ?_), rfl, (a, m), HFD.out, ⟨?_, ?_, ?_, HBj.out.max⟩, ?_, ?_, ?_⟩
      · rcases hc with hc | hc
        · rcases ht with rfl | rfl | rfl <;> omega
        · exact hc
      · exact HFS.out.get (HF3.out.get HBj.out.ptr (fun e => HBj.out.ne e)) (by omega)
      · exact (HM3.out.fr HFS.out (by omega)).congr (updF_bk HBj.out.ok HLN.out (by omega))
      · exact chain_ins HBj.out.ok (by omega) ⟨(a, m), List.mem_of_getElem? (by rw [← HG.out]; exact HX.out), Nat.le_refl _, by simp only; omega⟩
      · have hn := HN.out
        refine ⟨HFS.out.os.trans (HF3.out.os.trans (H1.out.os.trans HBW.out.os)), HFS.out.tape.trans (HF3.out.tape.trans (H1.out.tape.trans HBW.out.tape)), HFS.out.output.trans (HF3.out.output.trans (H1.out.output.trans HBW.out.output)), Nat.le_trans HBW.out.size (Nat.le_trans H1.out.size (Nat.le_trans HF3.out.size HFS.out.size)), fun b hb hs => ?_⟩
        rw [← hn] at hb
        have e1 := HBW.out.block b (by omega)
        have e2 := H1.out.block b (by omega)
        have hl1 := HBW.out.size
        have hl2 := H1.out.size
        have e3 := HF3.out.block b (by omega) hs
        have e4 := HFS.out.block b (by have := HF3.out.size; omega) (by omega)
        exact e4.trans (e3.trans (e2.trans e1))
      · have h := blk_set K2.out 0 (.int .i64 (a : Int))
        exact blk_far (by simpa using h) _ (by simp)
      · have h := blk_far K3.out (a := ⟨N + 2, 0, none⟩) (.int .i64 (a : Int)) (by simp)
        have h' := blk_set h 0 (.int .i64 0)
        simpa using h'
    · have HFD := Aside0.mk (find_take_none h2 HX.out (by simp [takeP]; omega))
      gi_wp2
      exact ⟨KeepI.refl _ _ _ _, H1.out, HFD.out⟩
  case done =>
    rintro M W' hM hMW ⟨h1, h2⟩ hD
    have k2 := (h1.block (N + 2) (by omega)).trans HB2.out
    have k3 := (h1.block (N + 3) (by omega)).trans HB3.out
    have f2 := blk_free k2 0
    have f3 := blk_free k3 0
    have d2 := blk_cell k2 (i := 0) rfl
    have d3 := blk_cell k3 (i := 0) rfl
    have HBj := Aside0.mk ((HH.out.below HBW.out).same (h1.block p (by omega)) (h1.block s (by omega)))
    have HFD := Aside0.mk (show gs.find? (takeP n) = none by have : (gs.take (gaps 0 bs U).length).find? (takeP n) = none := h2; rwa [← HG.out, List.take_length] at this)
    have K2 := Aside0.mk k2
    have K3 := Aside0.mk k3
    have H1 := Aside0.mk h1
    have HD := Aside0.mk hD
    clear hseq h1 h2 k2 k3 hM hMW hD
    gi_wp2
    obtain ⟨V, hV⟩ : ∃ V, V = (W'.setCell ⟨N + 2, 0, none⟩ (.int .i64 0)).setCell ⟨N + 3, 0, none⟩ (.int .i64 100) := ⟨_, rfl⟩
    rw [← hV]
    have HFS := Aside0.mk (show Fr (fun b => b = N + 2 ∨ b = N + 3) W' V from by rw [hV]; exact ((Fr.refl _ W').setCell (.inl (.inl rfl)) _).setCell (.inl (.inr rfl)) _)
    have v2 : V.heap[N + 2]? = some (.cells #[.int .i64 0] 3 (0, 0)) := by
      have h := blk_set K2.out 0 (.int .i64 0)
      rw [hV]
      exact blk_far (by simpa using h) _ (by simp)
    have v3 : V.heap[N + 3]? = some (.cells #[.int .i64 100] 24 (0, 0)) := by
      have h := blk_far K3.out (a := ⟨N + 2, 0, none⟩) (.int .i64 0) (by simp)
      have h' := blk_set h 0 (.int .i64 100)
      rw [hV]
      simpa using h'
    have hz := HZ.out
    have HDV := Aside0.mk (HFS.out.get HD.out (by omega))
    refine ⟨by simp, .inl ⟨_, _, rfl, run_takeDeferred HDV.out, ?_⟩⟩
    refine ⟨_, results_c2 rfl _ _ (N + 2) (N + 3) _ _ rfl ((World.putObj_heap_other (by omega)).trans v2) Try.underlying3 rfl rfl ((World.putObj_heap_other (by omega)).trans v3) Try.underlying24 rfl, ?_⟩
    rw [HPO.out, TakeOut, ← HG.out, HFD.out]
    have hput := grownBy_putObj' V w1.heap.size (.deferred none)
    refine ⟨rfl, HBj.out.same ?_ ?_, ?_⟩
    · exact (World.putObj_heap_other (by omega)).trans (HFS.out.block p HBj.out.p_lt (by omega))
    · exact (World.putObj_heap_other (by omega)).trans (HFS.out.block s HBj.out.s_lt (by omega))
    · have hn := HN.out
      refine ⟨HFS.out.os.trans (H1.out.os.trans HBW.out.os), HFS.out.tape.trans (H1.out.tape.trans HBW.out.tape), HFS.out.output.trans (H1.out.output.trans HBW.out.output), ?_, fun b hb hs => ?_⟩
      · have h1 := HBW.out.size; have h2 := H1.out.size; have h3 := HFS.out.size; simp; omega
      · rw [← hn] at hb
        have hl1 := HBW.out.size
        have hl2 := H1.out.size
        exact (World.putObj_heap_other (by omega)).trans ((HFS.out.block b (by omega) (by omega)).trans ((H1.out.block b (by omega)).trans (HBW.out.block b (by omega))))
  case stop =>
    rintro c M k W' hk hM hMW ⟨rfl, g, h1, h2, h3, h4, h5⟩ hD
    have HD := Aside0.mk hD
    have HFD := Aside0.mk h1
    have HB := Aside0.mk h2
    have H3 := Aside0.mk h3
    have H4 := Aside0.mk h4
    have H5 := Aside0.mk h5
    clear hseq h1 h2 h3 h4 h5 hD hM hMW hk
    gi_wp2
    have hz := HZ.out
    refine ⟨by simp, .inl ⟨_, _, rfl, run_takeDeferred HD.out, ?_⟩⟩
    refine ⟨_, results_c2 rfl _ _ (N + 2) (N + 3) _ _ rfl ((World.putObj_heap_other (by omega)).trans H4.out) Try.underlying3 rfl rfl ((World.putObj_heap_other (by omega)).trans H5.out) Try.underlying24 rfl, ?_⟩
    have hfd : gs.find? (takeP n) = some g := HFD.out
    rw [HPO.out, TakeOut, ← HG.out, hfd]
    have hn := HN.out
    refine ⟨rfl, HB.out.same (World.putObj_heap_other (by omega)) (World.putObj_heap_other (by omega)), H3.out.os, H3.out.tape, H3.out.output, ?_, fun b hb hs => ?_⟩
    · have := H3.out.size; simpa using this
    · exact (World.putObj_heap_other (by omega)).trans (H3.out.block b hb hs)
end Go.Proofs.Ytgendnoafemgpaa.Hand
