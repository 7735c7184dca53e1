/- What a claim needs of the walks and contracts, part 4. -/
import Derived.Test.YtbfogcckbhkciaaGreatProg
import Derived.WalkKit
import Derived.Below
import Derived.OwnWalk
import Derived.BigQuiet
import Derived.BigFrame
import Derived.KernelRfl
import Derived.LoopTactic
import Derived.Lib.Hide
import Derived.Outline
import Derived.Deep.Draws
import Derived.OneCell
import Derived.WalkSpells
import Derived.IntWalk
import Derived.Laws.CopyOwn
import Derived.Laws.ResultCell
import Derived.Laws.Rows
import Derived.Maps.OwnSet
import Derived.Maps.OwnOps
import Derived.Maps.RangeWalk
import Derived.Maps.Ext
import Derived.Handy
import Derived.Lib.ConvBytes
import Derived.Laws.BitsAllLaws
import Derived.Lib.Bytes
import Derived.Deep.RegionHeld3
import Derived.ProofKit
import Derived.OpenShut
import Derived.Deep.RegionHeld
import Derived.StillTailTactics
import Derived.Test.YtbfogcckbhkciaaGreatHandShelfP
import Derived.Deep.Slices
import Derived.ChangeSame
import Derived.Lib.SmallJoins
import Derived.Deep.QuietTactic
import Derived.Lib.SlBytesConst
import Derived.Test.YtbfogcckbhkciaaGreatHandG3
namespace Go.Proofs.YtbfogcckbhkciaaGreat.Hand
set_option linter.unusedVariables false
set_option linter.unusedSimpArgs false
open Go.RowKit Go.Proofs.YtbfogcckbhkciaaGreatW.PrintWords
def rightB (a : Int) : Bool := a == 1 || (a == 2 || (a == 4 || a == 8))
theorem right_calls (a : Int) (w : World) : Calls Tryz.prog 74 #[.int .i64 a] w fun e w' => e = .returned (.bool (rightB a)) ∧ w = w' := by
  by_cases h1 : a = 1
  · go_enter Tryz.func74, Tryz.ntmps74
    go_wp2
    go_ret
    exact ⟨by simp [rightB, h1], rfl⟩
  · by_cases h2 : a = 2
    · go_enter Tryz.func74, Tryz.ntmps74
      go_wp2
      go_ret
      exact ⟨by simp [rightB, h2], rfl⟩
    · by_cases h3 : a = 4
      · go_enter Tryz.func74, Tryz.ntmps74
        go_wp2
        go_ret
        exact ⟨by simp [rightB, h3], rfl⟩
      · go_enter Tryz.func74, Tryz.ntmps74
        go_wp2
        go_ret
        exact ⟨by rw [rightB, beq_false_of_ne h1, beq_false_of_ne h2, beq_false_of_ne h3]; rfl, rfl⟩
def insideB (at_ width : Int) (n : Nat) : Bool := decide (0 ≤ at_) && (decide (at_ ≤ n) && decide (width ≤ n - at_))
theorem inside_calls (w : World) (pa pb pw : Nat) (at_ width : Int) (a : Option Addr) (n c : Nat)
    (hm : n ≤ 9223372036854775807) (ha : w.cell? ⟨pa,0,none⟩ = some (.int .i64 at_)) (hb : w.cell? ⟨pb,0,none⟩ = some (.slice a n c)) (hw : w.cell? ⟨pw,0,none⟩ = some (.int .i64 width)) :
    Calls Tryz.prog 73 #[.pointer (some ⟨pa,0,none⟩), .pointer (some ⟨pb,0,none⟩), .pointer (some ⟨pw,0,none⟩)] w fun e w' => e = .returned (.bool (insideB at_ width n)) ∧ w = w' := by
  by_cases c1 : 0 ≤ at_
  · by_cases c2 : at_ ≤ (n : Int)
    · go_enter Tryz.func73, Tryz.ntmps73
      go_wp2
      go_ret
      exact ⟨by rw [insideB, decide_eq_true c1, decide_eq_true c2]; rfl, rfl⟩
    · go_enter Tryz.func73, Tryz.ntmps73
      go_wp2
      go_ret
      exact ⟨by rw [insideB, decide_eq_false (Int.not_le.2 c2), Bool.false_and, Bool.and_false]; rfl, rfl⟩
  · go_enter Tryz.func73, Tryz.ntmps73
    go_wp2
    go_ret
    exact ⟨by rw [insideB, decide_eq_false (Int.not_le.2 c1), Bool.false_and]; rfl, rfl⟩
def getN (l : List Int) (at_ : Int) : Nat → Int
  | 0 => 0
  | k + 1 => bits .or .u64 (getN l at_ k) (IntKind.u64.wrap (IntKind.u64.wrap (rd l (at_ + k)) * 2 ^ (8 * k)))
theorem get_no (l : List Int) (A : Option Addr) (c : Nat) (at_ width : Int) (w : World) (hl : l.length ≤ 9223372036854775807)
    (h : (rightB width && insideB at_ width l.length) = false) :
    Calls Tryz.prog 56 #[.slice A l.length c, .int .i64 at_, .int .i64 width] w fun e w' => e = .returned (.tuple #[.int .u64 0, .bool false]) ∧ Below w.heap.size w w' := by
  cases hr : rightB width with
  | false =>
    go_enter Tryz.func56, Tryz.ntmps56
    go_wp2_with (go_at_call 74; refine (right_calls _ _).mono ?_; rintro e w' ⟨rfl, rfl⟩)
    go_ret2
    exact ⟨rfl, below_alloc (below_alloc (below_alloc (Below.refl _ _) _) _) _⟩
  | true =>
    have hi : insideB at_ width l.length = false := by simpa [hr] using h
    clear h
    go_enter Tryz.func56, Tryz.ntmps56
    go_wp2_with (first | (go_at_call 74; refine (right_calls _ _).mono ?_; rintro e w' ⟨rfl, rfl⟩) | (go_at_call 73; refine (inside_calls _ _ _ _ at_ width A l.length c hl (by go_simp) (by go_simp) (by go_simp)).mono ?_; rintro e w' ⟨rfl, rfl⟩))
    go_ret2
    exact ⟨rfl, below_alloc (below_alloc (below_alloc (Below.refl _ _) _) _) _⟩
theorem get_yes (l : List Int) (A : Option Addr) (c : Nat) (at_ width : Int) (w : World) (hx : ReadsInt w .u8 A l.length l)
    (h : (rightB width && insideB at_ width l.length) = true) :
    Calls Tryz.prog 56 #[.slice A l.length c, .int .i64 at_, .int .i64 width] w fun e w' => e = .returned (.tuple #[.int .u64 (getN l at_ width.toNat), .bool true]) ∧ Below w.heap.size w w' := by
  have hl := hx.2.1
  obtain ⟨hr, hi⟩ : rightB width = true ∧ insideB at_ width l.length = true := by simpa using h
  clear h
  go_enter Tryz.func56, Tryz.ntmps56
  go_wp2_with (first | (go_at_call 74; refine (right_calls _ _).mono ?_; rintro e w' ⟨rfl, rfl⟩) | (go_at_call 73; refine (inside_calls _ _ _ _ at_ width A l.length c hl (by go_simp) (by go_simp) (by go_simp)).mono ?_; rintro e w' ⟨rfl, rfl⟩))
  have hw : 0 < width ∧ width ≤ 8 := by
    have := hr
    simp only [rightB, Bool.or_eq_true, beq_iff_eq] at this
    omega
  have hii : 0 ≤ at_ ∧ at_ ≤ l.length ∧ width ≤ l.length - at_ := by
    have := hi
    simp only [insideB, Bool.and_eq_true, decide_eq_true_eq] at this
    exact this
  obtain ⟨hw0, hw8⟩ := hw
  obtain ⟨hi0, hi1, hi2⟩ := hii
  clear hr hi
  go_loop [9, 21] (fun n i => ∃ k : Nat, k ≤ width.toNat ∧ i = .int .i64 k ∧ n = .int .u64 (getN l at_ k)) (fun _ i => width.toNat - (intOf i).toNat)
  case atStart => exact ⟨0, Nat.zero_le _, rfl, rfl⟩
  case round =>
    obtain ⟨k, hk, rfl, rfl⟩ := hrel
    by_cases hlt : (k : Int) < width
    · obtain ⟨ad, rfl, hc⟩ := hx.at_ (at_ + k) (by omega) (by omega)
      have hc3 := pw_cell_below (below_alloc (below_alloc (below_alloc (Below.refl w.heap.size w) (.cells #[.slice (some ad) l.length c] 22)) (.cells #[.int .i64 at_] 3)) (.cells #[.int .i64 width] 3)) hc
      clear hc
      have hsum : IntKind.i64.wrap (at_ + k) = at_ + k := IntWalk.i64_in _ (by omega)
      go_wp2
      go_round
      case rel => exact ⟨k + 1, by omega, by go_num, rfl⟩
      case measure => simp [intOf]; omega
    · have hk2 : k = width.toNat := by omega
      go_wp2
      go_ret2
      exact ⟨rfl, below_alloc (below_alloc (below_alloc (Below.refl _ _) _) _) _⟩
end Go.Proofs.YtbfogcckbhkciaaGreat.Hand
namespace Go.Proofs.YtbfogcckbhkciaaGreat.Hand
set_option linter.unusedVariables false
set_option linter.unusedSimpArgs false
open Go.RowKit
structure Fr (S : Nat → Prop) (w w' : World) : Prop where
  os : w'.os = w.os
  tape : w'.tape = w.tape
  output : w'.output = w.output
  size : w.heap.size ≤ w'.heap.size
  block : ∀ k, k < w.heap.size → ¬ S k → w'.heap[k]? = w.heap[k]?
section
variable {S T : Nat → Prop} {w w1 w2 : World}
theorem Fr.refl (S : Nat → Prop) (w : World) : Fr S w w := ⟨rfl, rfl, rfl, Nat.le_refl _, fun _ _ _ => rfl⟩
theorem Fr.trans (h : Fr S w w1) (k : Fr T w1 w2) (hs : ∀ b, T b → b < w.heap.size → S b) : Fr S w w2 :=
  ⟨k.os.trans h.os, k.tape.trans h.tape, k.output.trans h.output, Nat.le_trans h.size k.size, fun b hb hn => (k.block b (Nat.lt_of_lt_of_le hb h.size) (fun ht => hn (hs b ht hb))).trans (h.block b hb hn)⟩
theorem Fr.trans' (h : Fr S w w1) (k : Fr S w1 w2) : Fr S w w2 := h.trans k (fun _ hb _ => hb)
theorem Fr.mono (h : Fr S w w1) (hs : ∀ b, S b → T b) : Fr T w w1 := ⟨h.os, h.tape, h.output, h.size, fun b hb hn => h.block b hb (fun hs' => hn (hs b hs'))⟩
theorem Fr.of_below (h : Below w.heap.size w w1) (S : Nat → Prop) : Fr S w w1 := ⟨h.os, h.tape, h.output, h.size, fun b hb _ => h.block b hb⟩
theorem Fr.below (h : Fr S w w1) (B : Nat) (hB : B ≤ w.heap.size) (hS : ∀ b, S b → B ≤ b) : Below B w w1 := ⟨h.os, h.tape, h.output, h.size, fun b hb => h.block b (Nat.lt_of_lt_of_le hb hB) (fun hs => by have := hS b hs; omega)⟩
theorem Fr.alloc (h : Fr S w w1) (o : Obj) : Fr S w (w1.alloc o) := h.trans (Fr.of_below ((Below.refl _ w1).alloc (Nat.le_refl _) o) (fun _ => False)) (fun _ hf _ => hf.elim)
theorem Fr.drew (h : Fr S w w1) : Fr S w w1.drew := ⟨h.os, h.tape, h.output, h.size, h.block⟩
theorem Fr.drewN (h : Fr S w w1) (n : Nat) : Fr S w (w1.drewN n) := ⟨h.os, h.tape, h.output, h.size, h.block⟩
theorem Fr.setCell (h : Fr S w w1) {p : Addr} (hp : S p.block ∨ w.heap.size ≤ p.block) (u : Value) : Fr S w (w1.setCell p u) :=
  h.trans (T := fun b => b = p.block) ⟨rfl, rfl, rfl, by simp [World.setCell], fun b _ hn => Below.heap_setCell _ _ _ _ hn⟩ (fun b hb hl => by subst hb; rcases hp with hp | hp; exact hp; omega)
theorem Fr.get (h : Fr S w w1) {b : Nat} {o : Obj} (hb : w.heap[b]? = some o) (hn : ¬ S b) : w1.heap[b]? = some o := (h.block b (Array.getElem?_eq_some_iff.1 hb).1 hn).trans hb
theorem Fr.grown {row : Option Nat} (h : Fr S w w1) (hg : w1.grownBy w2 row) (hr : ∀ k, row = some k → S k ∨ w.heap.size ≤ k) : Fr S w w2 :=
  h.trans (T := fun b => row = some b) ⟨hg.os, hg.tape, hg.output, hg.size, fun b hb hn => hg.block b hb (fun e => hn e.symm)⟩ (fun b hb hl => by rcases hr b hb with h | h; exact h; omega)
theorem Fr.then_below (h : Fr S w w1) (hb : Below w1.heap.size w1 w2) : Fr S w w2 := h.trans (Fr.of_below hb (fun _ => False)) (fun _ hf _ => hf.elim)
end
end Go.Proofs.YtbfogcckbhkciaaGreat.Hand
namespace Go.Proofs.YtbfogcckbhkciaaGreat.Hand
set_option linter.unusedVariables false
set_option linter.unusedSimpArgs false
open Go.RowKit Go.Proofs.YtbfogcckbhkciaaGreatW.PrintWords
theorem width_of {width : Int} (h : rightB width = true) : width = 1 ∨ width = 2 ∨ width = 4 ∨ width = 8 := by
  simpa [rightB] using h
theorem right_yes (w : World) {a : Int} (h : rightB a = true) : Calls Tryz.prog 74 #[.int .i64 a] w fun e w' => e = .returned (.bool true) ∧ w = w' := (right_calls a w).mono fun e w' he => ⟨by rw [he.1, h], he.2⟩
theorem right_nay (w : World) {a : Int} (h : rightB a = false) : Calls Tryz.prog 74 #[.int .i64 a] w fun e w' => e = .returned (.bool false) ∧ w = w' := (right_calls a w).mono fun e w' he => ⟨by rw [he.1, h], he.2⟩
def fitsB (n width : Int) : Bool := rightB width && (width == 8 || n / 2 ^ (8 * width).toNat == 0)
theorem fits_calls (n width : Int) (w : World) : Calls Tryz.prog 77 #[.int .u64 n, .int .i64 width, .bool false] w fun e w' => e = .returned (.bool (fitsB n width)) ∧ w = w' := by
  cases hr : rightB width with
  | false =>
    have HR := Aside0.mk hr
    clear hr
    go_enter Tryz.func77, Tryz.ntmps77
    go_wp2_with (go_at_call 74; refine (right_nay _ HR.out).mono ?_; rintro e w' ⟨rfl, rfl⟩)
    go_ret
    exact ⟨by rw [fitsB, HR.out]; rfl, rfl⟩
  | true =>
    rcases width_of hr with rfl | rfl | rfl | rfl
    all_goals
      clear hr
      go_enter Tryz.func77, Tryz.ntmps77
      go_wp2_with (go_at_call 74; refine (right_yes _ rfl).mono ?_; rintro e w' ⟨rfl, rfl⟩)
      go_ret
      exact ⟨rfl, rfl⟩
theorem fits_yes (w : World) {n width : Int} (h : fitsB n width = true) : Calls Tryz.prog 77 #[.int .u64 n, .int .i64 width, .bool false] w fun e w' => e = .returned (.bool true) ∧ w = w' := (fits_calls n width w).mono fun e w' he => ⟨by rw [he.1, h], he.2⟩
theorem fits_nay (w : World) {n width : Int} (h : fitsB n width = false) : Calls Tryz.prog 77 #[.int .u64 n, .int .i64 width, .bool false] w fun e w' => e = .returned (.bool false) ∧ w = w' := (fits_calls n width w).mono fun e w' he => ⟨by rw [he.1, h], he.2⟩
def leB (n : Int) : Nat → List Int
  | 0 => []
  | k + 1 => leB n k ++ [n / 2 ^ (8 * k) % 256]
theorem leB_length (n : Int) (k : Nat) : (leB n k).length = k := by induction k with
  | zero => rfl
  | succ k ih => simp [leB, ih]
theorem put_no (v : Value) (width n : Int) (w : World) (h : fitsB n width = false) :
    Calls Tryz.prog 61 #[v, .int .i64 width, .int .u64 n] w fun e w' => e = .returned (.tuple #[v, .bool false]) ∧ w = w' := by
  have HF := Aside0.mk h
  clear h
  go_enter Tryz.func61, Tryz.ntmps61
  go_wp2_with (go_at_call 77; refine (fits_nay _ HF.out).mono ?_; rintro e w' ⟨rfl, rfl⟩)
  go_ret2
  exact ⟨rfl, rfl⟩
theorem info_u8 : (Tryz.prog.info? 5).map (fun i => (i.zero, i.size, i.bytes)) = some (some (.int .u8 0), 1, 1) := by kernel_rfl
set_option maxHeartbeats 1000000 in
theorem put_calls (P : Nat → Prop) (v : Value) (l : List Int) (width n : Int) (w : World) (ho : Kd.R (Kd.int .u8) 5 w 0 P v l) (h : fitsB n width = true) (hl : l.length + 8 ≤ 140737488355328) :
    Calls Tryz.prog 61 #[v, .int .i64 width, .int .u64 n] w fun e w' => ∃ v' : Value, e = .returned (.tuple #[v', .bool true]) ∧ Kd.R (Kd.int .u8) 5 w' 0 (fun k => P k ∨ w.heap.size ≤ k) v' (l ++ leB n width.toNat) ∧ Fr P w w' := by
  have hw : 0 < width ∧ width ≤ 8 := by
    have := h
    simp only [fitsB, Bool.and_eq_true] at this
    rcases width_of this.1 with rfl | rfl | rfl | rfl <;> omega
  have HF := Aside0.mk h
  have HO := Aside0.mk ho
  obtain ⟨hw0, hw8⟩ := hw
  clear h ho
  go_enter Tryz.func61, Tryz.ntmps61
  go_wp2_with (go_at_call 77; refine (fits_yes _ HF.out).mono ?_; rintro e w' ⟨rfl, rfl⟩)
  go_loopw [0, 15] (fun v0 i wr => ∃ k : Nat, k ≤ width.toNat ∧ i = .int .i64 k ∧ Aside0 (Kd.R (Kd.int .u8) 5 wr 0 (fun k => P k ∨ w.heap.size ≤ k) v0 (l ++ leB n k)) ∧ Aside0 (Fr P w wr)) (fun _ i _ => width.toNat - (intOf i).toNat)
  case atStart => exact ⟨0, Nat.zero_le _, rfl, ⟨by simpa [leB] using Kd.R_mono HO.out (fun k hk => .inl hk)⟩, ⟨Fr.refl _ _⟩⟩
  case round =>
    obtain ⟨k, hk, rfl, HOr, HFr⟩ := hrel
    by_cases hlt : (k : Int) < width
    · have hk2 : k < 8 := by omega
      have HL := Aside0.mk (leB_length n k)
      go_wp2_with (at_builtin; refine Kd.R_append (Kd.int .u8) (w0 := wr) 0 rfl (.tmp 18) (.tmp 24) 22 5 (.int .u8 0) 1 rfl Tryz.underlying22 info_u8 rfl (by decide) (by omega) u0 (l ++ leB n k) (n / 2 ^ (8 * k) % 256) [.int .u8 (n / 2 ^ (8 * k) % 256)] (fun k => P k ∨ w.heap.size ≤ k) (fun _ => False) rfl rfl ?aP (fun _ hk => hk.elim) ?aF ?aO ?aB ?aS ?aL ?_)
      case aP => exact rfl
      case aF => exact fun k hk => .inr (Nat.le_trans HFr.out.size hk)
      case aO => exact HOr.out
      case aB => exact Below.refl _ _
      case aS => exact Nat.zero_le _
      case aL => have := HL.out; simp; omega
      intro v1 w1 ho hb hg hat
      have HOn := Aside0.mk ho
      have HFn := Aside0.mk ((HFr.out).grown hg HOr.out.1)
      clear ho hb hg hat
      go_wp2
      go_roundw
      case rel => exact ⟨k + 1, by omega, by go_num, ⟨by rw [leB]; exact HOn.out⟩, ⟨HFn.out⟩⟩
      case measure => simp [intOf]; omega
    · have hk2 : k = width.toNat := by omega
      have HE := Aside0.mk hk2
      clear hk2
      go_wp2
      go_ret2
      exact ⟨_, rfl, HE.out ▸ HOr.out, HFr.out⟩
end Go.Proofs.YtbfogcckbhkciaaGreat.Hand
namespace Go.Proofs.YtbfogcckbhkciaaGreat.Hand
set_option linter.unusedVariables false
set_option linter.unusedSimpArgs false
open Go.RowKit Go.Proofs.YtbfogcckbhkciaaGreatW.PrintWords
section
variable {P : Program} {ops : Array Oper} {rest : List Oper} {o : Oper} {a : Act} {Q : Exit → Act → World → Prop}
theorem gate_bi {b : Builtin} {xs : Array Operand} {ts : Array TypeId} {W : World} (_ho : o.op = .call { callee := .builtin b, args := xs, argTypes := ts }) (h : wpList P ops Q (o :: rest) a W) : wpList P ops Q (o :: rest) a W := h
theorem grown_setRow (W : World) (g : Nat) (cs : Array Value) : W.grownBy (W.setRow g cs) (some g) :=
  ⟨rfl, rfl, rfl, by simp [World.setRow], fun k hk hne => setRow_other W g k cs (fun e => hne (by rw [e]))⟩
theorem wpList_copy_at {α : Type} {enc : α → Value} {h1 : ∀ x, (enc x).oneCell' = true} (d0 : α) {W : World} (hgd : o.guard = none) (s x : Operand) (t t' e : TypeId)
    (ho : o.op = .call { callee := .builtin .copy, args := #[s, x], argTypes := #[t, t'] }) (ht : P.underlying t = some (.slice e)) (hinfo : (P.info? e).map (·.size) = some 1)
    (g cap off : Nat) (dp : Option Addr) (dl dc : Nat) (xs ys : List α) (A : Option Addr) (m c : Nat) (base : Nat) (ok : Nat → Prop) (hs : a.eval s = .slice dp dl dc) (hx : a.eval x = .slice A m c)
    (HO : (Kd.scalar enc h1).R e W base ok (.slice (some ⟨g, 0, none⟩) xs.length cap) xs) (HR : (Kd.scalar enc h1).C W A m ys) (hoff : off + m ≤ xs.length) (hdl : m ≤ dl) (hdp : 0 < m → dp = some ⟨g, off, none⟩)
    (h : ∀ w1, (Kd.scalar enc h1).R e w1 base ok (.slice (some ⟨g, 0, none⟩) xs.length cap) (xs.take off ++ (ys ++ xs.drop (off + m))) → W.grownBy w1 (some g) → wpList P ops Q rest (a.put o.dst (.int .i64 (m : Int))) w1) :
    wpList P ops Q (o :: rest) a W := by
  have hR := Kd.reads_of_C (enc := enc) (d := d0) (h1 := h1) HR
  have hm : ys.length = m := hR.1
  rcases Nat.eq_zero_or_pos m with h0 | h0
  · subst h0
    obtain rfl : ys = [] := List.eq_nil_of_length_eq_zero hm
    refine wpList_copy_nothing hgd s x t t' ho e ht hinfo dp A dl dc 0 c hs hx (by simp [Nat.min]) (h W ?_ ⟨rfl, rfl, rfl, Nat.le_refl _, fun _ _ _ => rfl⟩)
    simpa using HO
  · obtain ⟨hl, hrow⟩ := Kd.own_of_R HO
    rcases hrow with ⟨hv, _⟩ | ⟨g', cap', cur, hv, hbase, hg, hcap, hmax, hsz, htake⟩
    · cases hv
    injection hv with hv1 hv2 hv3
    injection hv1 with hv1
    injection hv1 with hv1
    subst hv1; subst hv3
    obtain ⟨ad, rfl, hc⟩ := hR.2.2 h0
    obtain rfl := hdp h0
    have hcs1 : cur.size = cap := by omega
    have hkl : (encs enc ys).length = m := by rw [encs_length, hm]
    have hmin : Nat.min m dl = m := Nat.min_eq_left hdl
    rw [Nat.mul_one] at htake
    refine wpList_copy_own hgd s x t t' ho e ht hinfo g off dl dc ad m c hs hx cur e hg (encs enc ys) (by rw [hkl, hmin]) ?_ (by rw [hkl, hcs1]; omega) (by intro u hu; simp only [encs, List.mem_map] at hu; obtain ⟨q, _, rfl⟩ := hu; exact h1 q) ?_
    · intro j u hu
      have hj : j < ys.length := by
        rcases Nat.lt_or_ge j ys.length with h | h
        · exact h
        · rw [List.getElem?_eq_none (by rw [encs_length]; exact h)] at hu
          cases hu
      rw [encs_get (d := d0) _ j hj] at hu
      rw [hc j (by omega), ← hu]
    · rw [hkl]
      have hgw := grown_setRow W g (cur.toList.take off ++ (encs enc ys ++ cur.toList.drop (off + m))).toArray
      refine h _ (Kd.R_of_own ?_ HO.1) hgw
      have hln : (xs.take off ++ (ys ++ xs.drop (off + m))).length = xs.length := by
        simp only [List.length_append, List.length_take, List.length_drop]
        omega
      rw [hln]
      refine ⟨by rw [encs_length, hln, Nat.mul_one], .inr ⟨g, cap, _, rfl, hbase, setRow_heap W g cur _ e (0, 0) hg, hcap, hmax, ?_, ?_⟩⟩
      · simp only [List.size_toArray, List.length_append, List.length_take, List.length_drop, hkl, Array.length_toList]
        omega
      · have hcl : cur.toList = encs enc xs ++ cur.toList.drop xs.length := by rw [← htake, List.take_append_drop]
        have e1 : cur.toList.take off = encs enc (xs.take off) := by
          rw [hcl, List.take_append_of_le_length (by rw [encs_length]; omega)]
          simp [encs, List.map_take]
        have e2 : cur.toList.drop (off + m) = encs enc (xs.drop (off + m)) ++ cur.toList.drop xs.length := by
          conv => lhs; rw [hcl]
          rw [List.drop_append_of_le_length (by rw [encs_length]; omega)]
          simp [encs, List.map_drop]
        rw [e1, e2, Nat.mul_one]
        have e3 : encs enc (xs.take off) ++ (encs enc ys ++ (encs enc (xs.drop (off + m)) ++ cur.toList.drop xs.length)) = encs enc (xs.take off ++ (ys ++ xs.drop (off + m))) ++ cur.toList.drop xs.length := by
          simp [encs]
        rw [e3, List.take_append_of_le_length (by rw [encs_length, hln]; exact Nat.le_refl _), List.take_of_length_le (by rw [encs_length, hln]; exact Nat.le_refl _)]
end
end Go.Proofs.YtbfogcckbhkciaaGreat.Hand
namespace Go.Proofs.YtbfogcckbhkciaaGreat.Hand
set_option linter.unusedVariables false
set_option linter.unusedSimpArgs false
open Go.RowKit Go.Proofs.YtbfogcckbhkciaaGreatW.PrintWords
theorem clone_bytes (A : Option Addr) (c : Nat) (l : List Int) (w : World) (hr : ReadsInt w .u8 A l.length l) (hl : l.length ≤ 140737488355328) :
    Calls Tryz.prog 54 #[.slice A l.length c] w fun e w' => ∃ v : Value, e = .returned v ∧ Kd.R (Kd.int .u8) 5 w' w.heap.size (fun _ => True) v l ∧ Below w.heap.size w w' := by
  have q22 : ∀ (w : World) (a : Option Addr) (n c n' c' : Nat), (binOp .eql 22 (.slice a n c) (.slice none n' c')).run Tryz.prog w = .ok (.bool a.isNone) w := fun w a n c n' c' => Lib.run_eql_slice_nil w _ _ a n c n' c' Tryz.underlying22
  have HR := Aside0.mk hr
  clear hr
  cases A with
  | none =>
    go_enter Tryz.func54, Tryz.ntmps54
    go_wp2
    go_ret
    obtain ⟨h1, h2, h3⟩ := HR.out
    obtain rfl : l = [] := by
      cases l with
      | nil => rfl
      | cons x l => exact absurd (h3 (by simp)) (by simp)
    exact ⟨_, rfl, Kd.R_nil _ _ _ _ _, Below.refl _ _⟩
  | some a =>
    go_enter Tryz.func54, Tryz.ntmps54
    go_wp2_with (at_builtin; refine Kd.R_append_row (Value.int .u8) 0 (h1 := fun _ => rfl) (w0 := w) w.heap.size rfl (.tmp 5) (.tmp 6) 22 5 (.int .u8 0) 1 rfl Tryz.underlying22 info_u8 rfl (by decide) (.slice (some ⟨w.heap.size, 0, none⟩) 0 0) [] l (some a) l.length c (fun _ => True) rfl rfl (fun _ _ => trivial) ?c1 ?c2 ?c3 ?c4 ?c5 ?_)
    case c1 => exact Kd.R_of_own (World.ownsRow_made w #[] 0 (Nat.le_refl _) (Nat.zero_le _) rfl) (fun _ _ => trivial)
    case c2 => exact Kd.C_below (d := Kd.int .u8) (Kd.C_of_reads (d := (0 : Int)) (h1 := fun _ => rfl) HR.out) (below_alloc (Below.refl _ _) _)
    case c3 => exact below_alloc (Below.refl _ _) _
    case c4 => simp
    case c5 => simpa using hl
    intro v1 w1 ho hb hg hat
    go_wp2
    go_ret
    exact ⟨_, rfl, ho, hb⟩
end Go.Proofs.YtbfogcckbhkciaaGreat.Hand
namespace Go.Proofs.YtbfogcckbhkciaaGreat.Hand
set_option linter.unusedVariables false
set_option linter.unusedSimpArgs false
open Go.RowKit Go.Proofs.YtbfogcckbhkciaaGreatW.PrintWords
def New (w : World) : Nat → Prop := fun k => w.heap.size ≤ k
theorem own_slice_form {α : Type} {enc : α → Value} {h1 : ∀ x, (enc x).oneCell' = true} {e : Nat} {w : World} {base : Nat} {ok : Nat → Prop} {v : Value} {xs : List α} (h : (Kd.scalar enc h1).R e w base ok v xs) (h0 : 0 < xs.length) :
    ∃ g cap, v = .slice (some ⟨g, 0, none⟩) xs.length cap ∧ base ≤ g ∧ ok g ∧ xs.length ≤ cap ∧ cap ≤ 9223372036854775807 := by
  rcases (Kd.own_of_R h).2 with ⟨_, h2⟩ | ⟨g, cap, cur, hv, hb, _, hc, hm, _⟩
  · omega
  · exact ⟨g, cap, hv, hb, h.1 g (by rw [hv]; rfl), hc, by simpa [maxLen] using hm⟩
def setB (l : List Int) (at_ width n : Int) : Bool := (rightB width && insideB at_ width l.length) && fitsB n width
def putL (n width : Int) : List Int := if fitsB n width then leB n width.toNat else []
theorem put_new (width n : Int) (w : World) :
    Calls Tryz.prog 61 #[.slice none 0 0, .int .i64 width, .int .u64 n] w fun e w' => ∃ v : Value, e = .returned (.tuple #[v, .bool (fitsB n width)]) ∧ Kd.R (Kd.int .u8) 5 w' 0 (New w) v (putL n width) ∧ Below w.heap.size w w' := by
  cases h : fitsB n width with
  | true =>
    refine (put_calls (New w) (.slice none 0 0) [] width n w (Kd.R_nil _ _ _ _ _) h (by simp)).mono ?_
    rintro e w' ⟨v, he, hr, hf⟩
    refine ⟨v, he, ?_, hf.below _ (Nat.le_refl _) (fun b hb => hb)⟩
    rw [putL, h, if_pos rfl]
    exact Kd.R_mono hr (fun k hk => hk.elim id id)
  | false =>
    refine (put_no (.slice none 0 0) width n w h).mono ?_
    rintro e w' ⟨he, rfl⟩
    refine ⟨_, he, ?_, Below.refl _ _⟩
    rw [putL, h, if_neg (by decide)]
    exact Kd.R_nil _ _ _ _ _
end Go.Proofs.YtbfogcckbhkciaaGreat.Hand
namespace Go.Proofs.YtbfogcckbhkciaaGreat.Hand
set_option linter.unusedVariables false
set_option linter.unusedSimpArgs false
open Go.RowKit Go.Proofs.YtbfogcckbhkciaaGreatW.PrintWords
def flat {α : Type} (enc : α → List Value) (sz : Nat) (hl : ∀ x, (enc x).length = sz) (h1 : ∀ x, ∀ u ∈ enc x, u.oneCell' = true) : Kd α where
  sz := sz
  E := []
  K := fun _ x cs => cs = enc x
  M := fun _ _ _ x cs => cs = enc x
  K_len := by rintro w x cs rfl; exact hl x
  K_one := by rintro w x cs rfl; exact h1 x
  K_below := fun _ h => h
  K_of_M := fun h => h
  M_mono := fun _ h => h
  M_bound := fun h => h
  M_move := fun _ h => h
  M_lower := fun _ h => h
section
variable {α : Type} {enc : α → List Value} {sz : Nat} {hl : ∀ x, (enc x).length = sz} {h1 : ∀ x, ∀ u ∈ enc x, u.oneCell' = true}
theorem reps_of_flat (hl : ∀ x, (enc x).length = sz) (xs : List α) : Reps (fun x c => c = enc x) sz xs (xs.flatMap enc) := by
  induction xs with
  | nil => exact Reps.none _ _
  | cons x xs ih =>
    refine ⟨by simp only [List.flatMap_cons, List.length_append, List.length_cons, hl, ih.1]; rw [Nat.add_mul]; omega, fun j p hp => ?_⟩
    rw [List.flatMap_cons]
    cases j with
    | zero =>
      obtain rfl : x = p := by simpa using hp
      rw [Nat.zero_mul, List.drop_zero, ← hl x, List.take_left']
      rfl
    | succ j =>
      have h3 : ((xs.flatMap enc).drop (j * sz)).take sz = enc p := ih.2 j p (by simpa using hp)
      show ((enc x ++ xs.flatMap enc).drop ((j + 1) * sz)).take sz = enc p
      rw [← h3, Nat.succ_mul, Nat.add_comm, ← List.drop_drop, List.drop_left' (hl x)]
theorem flat_of_reps {xs : List α} {cs : List Value} (h : Reps (fun x c => c = enc x) sz xs cs) : cs = xs.flatMap enc := by
  induction xs generalizing cs with
  | nil => exact List.eq_nil_of_length_eq_zero (by simpa using h.1)
  | cons x xs ih =>
    have h0 := h.2 0 x rfl
    rw [Nat.zero_mul, List.drop_zero] at h0
    have h2 : Reps (fun x c => c = enc x) sz xs (cs.drop sz) := by
      refine ⟨by rw [List.length_drop, h.1, List.length_cons, Nat.succ_mul]; omega, fun j p hp => ?_⟩
      have h3 : (cs.drop ((j + 1) * sz)).take sz = enc p := h.2 (j + 1) p (by simpa using hp)
      show (((cs.drop sz).drop (j * sz)).take sz) = enc p
      rw [← h3, List.drop_drop, Nat.succ_mul, Nat.add_comm]
    rw [List.flatMap_cons, ← ih h2, ← h0, List.take_append_drop]
theorem flat_get (hl : ∀ x, (enc x).length = sz) {xs : List α} {j i : Nat} {x : α} (hx : xs[j]? = some x) (hi : i < sz) : (xs.flatMap enc)[j * sz + i]? = (enc x)[i]? := by
  have h : ((xs.flatMap enc).drop (j * sz)).take sz = enc x := (reps_of_flat hl xs).2 j x hx
  rw [← h, List.getElem?_take_of_lt hi, List.getElem?_drop]
theorem R_flat {e : Nat} {w : World} {base : Nat} {ok : Nat → Prop} {v : Value} {xs : List α} :
    (flat enc sz hl h1).R e w base ok v xs ↔ (∀ k, v.ownBlock = some k → ok k) ∧ w.ownsRow base e sz v xs.length (xs.flatMap enc) := by
  constructor
  · rintro ⟨h0, inner, ho, hr⟩
    have := flat_of_reps hr
    subst this
    exact ⟨h0, ho⟩
  · rintro ⟨h0, ho⟩
    exact ⟨h0, _, ho, reps_of_flat hl xs⟩
theorem flat_slice {e : Nat} {w : World} {base : Nat} {ok : Nat → Prop} {v : Value} {xs : List α} (h : (flat enc sz hl h1).R e w base ok v xs) :
    (v = .slice none 0 0 ∧ xs = []) ∨ ∃ g cap, v = .slice (some ⟨g, 0, none⟩) xs.length cap ∧ base ≤ g ∧ ok g ∧ xs.length ≤ cap ∧ cap ≤ 9223372036854775807 := by
  obtain ⟨h0, ho⟩ := R_flat.1 h
  rcases ho.2 with ⟨rfl, hn⟩ | ⟨g, cap, cur, rfl, hb, hg, hn, hm, _⟩
  · exact .inl ⟨rfl, List.eq_nil_of_length_eq_zero hn⟩
  · exact .inr ⟨g, cap, rfl, hb, h0 g rfl, hn, by simpa [maxLen] using hm⟩
theorem flat_cell {e g n cap : Nat} {w : World} {base : Nat} {ok : Nat → Prop} {xs : List α} (h : (flat enc sz hl h1).R e w base ok (.slice (some ⟨g, 0, none⟩) n cap) xs) {j i : Nat} {x : α} (hx : xs[j]? = some x) (hi : i < sz) :
    w.cell? ⟨g, j * sz + i, none⟩ = (enc x)[i]? ∧ w.frozen? ⟨g, j * sz + i, none⟩ = false := by
  obtain ⟨h0, ho⟩ := R_flat.1 h
  have hj : j < xs.length := (List.getElem?_eq_some_iff.1 hx).1
  have hlt : j * sz + i < xs.length * sz := by
    have : (j + 1) * sz ≤ xs.length * sz := Nat.mul_le_mul_right _ hj
    rw [Nat.succ_mul] at this
    omega
  rcases ho.2 with ⟨hv, hn⟩ | ⟨g', cap', cur, hv, hb, hg, hn, hm, hsz, ht⟩
  · omega
  · have hgg : g = g' := by
      injection hv with hv _ _
      injection hv with hv
      injection hv
    subst hgg
    refine ⟨?_, ?_⟩
    · rw [← flat_get hl hx hi, ← ht, List.getElem?_take_of_lt hlt]
      simp only [World.cell?, hg]
      simp
    · simp only [World.frozen?, hg]
      simp
theorem flat_reads {e : Nat} {w : World} {base : Nat} {ok : Nat → Prop} {v : Value} {xs : List α} (h : (flat enc sz hl h1).R e w base ok v xs) :
    ∃ A c, v = .slice A xs.length c ∧ xs.length ≤ c ∧ (flat enc sz hl h1).C w A xs.length xs := Kd.R_reads h
theorem C_flat {w : World} {A : Option Addr} {n : Nat} {xs : List α} (h : (flat enc sz hl h1).C w A n xs) {j : Nat} {x : α} (hx : xs[j]? = some x) :
    ∃ ad, A = some ad ∧ ∀ i, i < sz → w.cell? (ad.add (j * sz + i)) = (enc x)[i]? := by
  have hj : j < xs.length := (List.getElem?_eq_some_iff.1 hx).1
  obtain ⟨ad, hA, hc⟩ := h.2.2 (by have := h.1; omega)
  obtain ⟨c, hs, rfl, hcell⟩ := hc j x hx
  refine ⟨ad, hA, fun i hi => ?_⟩
  have hh : (enc x)[i]? = some ((enc x)[i]'(by rw [hl]; exact hi)) := List.getElem?_eq_getElem _
  rw [hh]
  exact hcell i _ hh
end
end Go.Proofs.YtbfogcckbhkciaaGreat.Hand
namespace Go.Proofs.YtbfogcckbhkciaaGreat.Hand
set_option linter.unusedVariables false
set_option linter.unusedSimpArgs false
open Go.RowKit Go.Proofs.YtbfogcckbhkciaaGreatW.PrintWords
theorem new_cell (w : World) (vs : Array Value) (t : TypeId) (i : Nat) {v : Value} (h : vs[i]? = some v) : (w.alloc (.cells vs t (0, 0))).cell? ⟨w.heap.size, i, none⟩ = some v := by
  have hn := heap_alloc_new w (.cells vs t (0, 0))
  simp only [World.cell?, hn]
  simpa using h
theorem blk_lt {w : World} {b : Nat} {o : Obj} (h : w.heap[b]? = some o) : b < w.heap.size := (Array.getElem?_eq_some_iff.1 h).1
theorem cell_alloc {w : World} {a : Addr} {v : Value} (h : w.cell? a = some v) : ∀ o, (w.alloc o).cell? a = some v := fun o => by
  rw [World.cell?_alloc_lt _ _ _ (World.block_lt_of_cell? w a h)]
  exact h
theorem blk_cell {w : World} {b : Nat} {vs : Array Value} {t : TypeId} {fr : Nat × Nat} (h : w.heap[b]? = some (.cells vs t fr)) {i : Nat} {v : Value} (hv : vs[i]? = some v) : w.cell? ⟨b, i, none⟩ = some v := by
  simp only [World.cell?, h]
  simpa using hv
theorem blk_free {w : World} {b : Nat} {vs : Array Value} {t : TypeId} (h : w.heap[b]? = some (.cells vs t (0, 0))) (i : Nat) : w.frozen? ⟨b, i, none⟩ = false := by
  simp only [World.frozen?, h]
  simp
theorem blk_set {w : World} {b : Nat} {vs : Array Value} {t : TypeId} {fr : Nat × Nat} (h : w.heap[b]? = some (.cells vs t fr)) (i : Nat) (u : Value) : (w.setCell ⟨b, i, none⟩ u).heap[b]? = some (.cells (vs.setIfInBounds i u) t fr) := by
  simp [World.setCell, Array.getElem?_modify, h]
theorem blk_far {w : World} {b : Nat} {o : Obj} (h : w.heap[b]? = some o) {a : Addr} (u : Value) (hne : b ≠ a.block) : (w.setCell a u).heap[b]? = some o := (Below.heap_setCell w a u b hne).trans h
theorem alloc_two (w : World) (o1 o2 : Obj) : ((w.alloc o1).alloc o2).heap[w.heap.size + 1]? = some o2 := by
  have := heap_alloc_new (w.alloc o1) o2
  simpa [World.alloc_eq] using this
theorem alloc_three (w : World) (o1 o2 o3 : Obj) : (((w.alloc o1).alloc o2).alloc o3).heap[w.heap.size + 1 + 1]? = some o3 := by
  have := heap_alloc_new ((w.alloc o1).alloc o2) o3
  simpa [World.alloc_eq] using this
theorem add_plain (b o i : Nat) : (⟨b, o, none⟩ : Addr).add i = ⟨b, o + i, none⟩ := by
  unfold Addr.add
  split <;> simp_all
theorem spot_none {w : World} {a : Addr} {v : Value} (h : w.cell? a = some v) : a.spot = none := by
  unfold World.cell? at h
  split at h
  · split at h
    · cases h
    · rename_i hs
      simpa using hs
  · cases h
theorem C_at {α : Type} {enc : α → List Value} {sz : Nat} {hl : ∀ x, (enc x).length = sz} {h1 : ∀ x, ∀ u ∈ enc x, u.oneCell' = true} {w : World} {A : Option Addr} {n : Nat} {xs : List α} (h : (flat enc sz hl h1).C w A n xs) (hs : 0 < sz) {j : Nat} {x : α} (hx : xs[j]? = some x) :
    ∃ b o, A = some ⟨b, o, none⟩ ∧ ∀ i, i < sz → w.cell? ⟨b, o + j * sz + i, none⟩ = (enc x)[i]? := by
  obtain ⟨ad, hA, hc⟩ := C_flat h hx
  have hj : j < xs.length := (List.getElem?_eq_some_iff.1 hx).1
  have hx0 : xs[0]? = some (xs[0]'(by omega)) := List.getElem?_eq_getElem _
  obtain ⟨ad', hA', hc'⟩ := C_flat h hx0
  obtain rfl : ad = ad' := by rw [hA] at hA'; exact Option.some.inj hA'
  have h0 := hc' 0 hs
  have hz : (enc (xs[0]'(by omega)))[0]? = some ((enc (xs[0]'(by omega)))[0]'(by rw [hl]; exact hs)) := List.getElem?_eq_getElem _
  rw [hz] at h0
  have hsp := spot_none h0
  obtain ⟨b, o, sp⟩ := ad
  have : sp = none := by
    have h2 : ((⟨b, o, sp⟩ : Addr).add (0 * sz + 0)).spot = sp := by
      unfold Addr.add
      simp
    rw [h2] at hsp
    exact hsp
  subst this
  refine ⟨b, o, hA, fun i hi => ?_⟩
  have := hc i hi
  rw [add_plain] at this
  rw [← this, Nat.add_assoc]
end Go.Proofs.YtbfogcckbhkciaaGreat.Hand
namespace Go.Proofs.YtbfogcckbhkciaaGreat.Hand
set_option linter.unusedVariables false
set_option linter.unusedSimpArgs false
open Go.RowKit Go.Maps Go.Proofs.YtbfogcckbhkciaaGreatW.PrintWords
def heldR (v : Value) : Option (DataW Value × List MemPlace) := some (.held v, [])
def Fits (D : DataW Value) (f : Lit → Option Value) : Prop := ∀ kl, has D kl = (f kl).isSome ∧ ∀ v, f kl = some v → ∀ z, D.atKey kl z = .held v
def MapF (P : Program) (k : TypeId) (w : World) (b : Nat) (f : Lit → Option Value) : Prop := ∃ D, w.ownsMap P k heldR b (Maps.size D) D ∧ Fits D f
def updF (f : Lit → Option Value) (kl : Lit) (v : Value) : Lit → Option Value := fun x => if x.sameKey kl then some v else f x
def delF (f : Lit → Option Value) (kl : Lit) : Lit → Option Value := fun x => if x.sameKey kl then none else f x
def RoomF (f : Lit → Option Value) (n : Nat) : Prop := ∃ L : List Lit, L.length ≤ n ∧ ∀ kl, (f kl).isSome = true → kl ∈ L
theorem nodup_len {α : Type} (xs : List α) : ∀ L : List α, xs.Nodup → (∀ x ∈ xs, x ∈ L) → xs.length ≤ L.length := by
  classical
  induction xs with
  | nil => exact fun _ _ _ => Nat.zero_le _
  | cons x xs ih =>
    intro L hn hs
    have hx := hs x (List.mem_cons_self ..)
    obtain ⟨h1, h2⟩ := List.nodup_cons.1 hn
    have := ih (L.erase x) h2 (fun y hy => (List.mem_erase_of_ne (fun e => h1 (by rw [← e]; exact hy))).2 (hs y (List.mem_cons_of_mem _ hy)))
    rw [List.length_erase_of_mem hx] at this
    have hl := List.length_pos_of_mem hx
    simp only [List.length_cons]
    omega
section
variable {P : Program} {k : TypeId} {w w1 : World} {b : Nat} {f : Lit → Option Value}
theorem size_le_of_room (hk : Keyed P k) {D : DataW Value} {n m : Nat} (h : w.ownsMap P k heldR b n D) (hf : Fits D f) (hr : RoomF f m) : Maps.size D ≤ m := by
  obtain ⟨es, rfl, hp, hkey⟩ := h.entries hk
  obtain ⟨L, hL, hin⟩ := hr
  have hnd : (es.map (·.1)).Nodup := List.pairwise_map.2 hp
  have := nodup_len (es.map (·.1)) L hnd (fun x hx => by
    obtain ⟨p, hp1, rfl⟩ := List.mem_map.1 hx
    refine hin _ ?_
    rw [← (hf p.1).1, has_eq, List.any_eq_true]
    exact ⟨p, hp1, WideAt.sameKey_self (hkey p hp1)⟩)
  rw [List.length_map] at this
  exact Nat.le_trans this hL
theorem MapF.of_own {D : DataW Value} {n : Nat} (h : w.ownsMap P k heldR b n D) (hf : Fits D f) : MapF P k w b f := by
  refine ⟨D, ?_, hf⟩
  obtain ⟨es, clock, hb, F, hs, hD⟩ := h
  refine ⟨es, clock, hb, F, ?_, hD⟩
  rw [hD]
  simp [Maps.size, length_sorted]
theorem MapF.made (w : World) : MapF P k (w.alloc (.map #[] 0)) w.heap.size (fun _ => none) :=
  MapF.of_own (World.ownsMap_made w P k heldR) (fun kl => ⟨rfl, fun v h => by cases h⟩)
theorem MapF.lt (h : MapF P k w b f) : b < w.heap.size := by obtain ⟨D, h, _⟩ := h; exact h.lt
theorem MapF.kept {row : Option Nat} (h : MapF P k w b f) (hg : w.grownBy w1 row) (hne : some b ≠ row) : MapF P k w1 b f := by
  obtain ⟨D, h, hf⟩ := h
  exact ⟨D, h.kept hg hne, hf⟩
theorem MapF.same (h : MapF P k w b f) (hb : w1.heap[b]? = w.heap[b]?) : MapF P k w1 b f := by
  obtain ⟨D, ⟨es, clock, h1, h2⟩, hf⟩ := h
  exact ⟨D, ⟨es, clock, hb.trans h1, h2⟩, hf⟩
theorem MapF.fr {S : Nat → Prop} (h : MapF P k w b f) (hf : Fr S w w1) (hb : ¬ S b) : MapF P k w1 b f := h.same (hf.block b h.lt hb)
theorem MapF.below (h : MapF P k w b f) (hb : Below w.heap.size w w1) : MapF P k w1 b f := h.same (hb.block b h.lt)
theorem MapF.blk (h : MapF P k w b f) : ∃ es clock, w.heap[b]? = some (.map es clock) := by
  obtain ⟨D, ⟨es, clock, h1, _⟩, _⟩ := h
  exact ⟨es, clock, h1⟩
theorem MapF.ne_cells (h : MapF P k w b f) {p : Nat} {cs : Array Value} {t : TypeId} {fr : Nat × Nat} (hp : w.heap[p]? = some (.cells cs t fr)) : p ≠ b := by
  obtain ⟨es, clock, h1⟩ := h.blk
  intro e
  rw [e, h1] at hp
  cases hp
theorem Fits.isMap {D : DataW Value} {n : Nat} (h : w.ownsMap P k heldR b n D) : IsMap D := h.isMap
theorem Fits.put {D : DataW Value} (hD : IsMap D) (hf : Fits D f) {kl : Lit} (hk : WideAt.IsKeyLit kl) (v : Value) : Fits (D.put kl (.held v)) (updF f kl v) := by
  intro x
  by_cases hx : x = kl
  · subst hx
    simp only [updF, WideAt.sameKey_self hk, if_true]
    exact ⟨has_put_same hD hk _, fun u hu z => by injection hu with hu; subst hu; exact atKey_put_same hD hk _ _⟩
  · simp only [updF, sameKey_ne hx, if_false, Bool.false_eq_true]
    exact ⟨(has_put_other hx _).trans (hf x).1, fun u hu z => (atKey_put_other hx _ _).trans ((hf x).2 u hu z)⟩
theorem Fits.del {D : DataW Value} (hf : Fits D f) {kl : Lit} (hk : WideAt.IsKeyLit kl) : Fits (D.del kl) (delF f kl) := by
  intro x
  by_cases hx : x = kl
  · subst hx
    simp only [delF, WideAt.sameKey_self hk, if_true]
    exact ⟨has_del_same, fun u hu => by cases hu⟩
  · simp only [delF, sameKey_ne hx, if_false, Bool.false_eq_true]
    exact ⟨(has_del_other hx).trans (hf x).1, fun u hu z => (atKey_del_other hx _).trans ((hf x).2 u hu z)⟩
theorem Fits.congr {D : DataW Value} {g : Lit → Option Value} (hf : Fits D f) (h : ∀ kl, f kl = g kl) : Fits D g := fun kl => by rw [← h kl]; exact hf kl
theorem MapF.congr {g : Lit → Option Value} (hf : MapF P k w b f) (h : ∀ kl, f kl = g kl) : MapF P k w b g := by
  obtain ⟨D, h1, h2⟩ := hf
  exact ⟨D, h1, h2.congr h⟩
theorem MapF.look {t e : TypeId} (h : MapF P k w b f) (K : Keyed P k) (ht : P.underlying t = some (.map k e)) {z : Value} (hz : (zeroValue e).run P w = .ok z w) {key : Value} {kl : Lit} (hkey : keyOf P k key = some kl) :
    (Instr.lookup t (.map (some b)) key true).run P w = .ok (.tuple #[(f kl).getD z, .bool (f kl).isSome]) w := by
  obtain ⟨D, h, hf⟩ := h
  obtain ⟨v, ps, hrun, hv⟩ := h.look_ok K ht hz (zd := .held z) (zp := []) rfl hkey
  simp only [heldR, Option.some.injEq, Prod.mk.injEq] at hv
  rw [hrun, (hf kl).1]
  cases hx : f kl with
  | some u =>
    rw [(hf kl).2 u hx] at hv
    obtain ⟨hv, _⟩ := hv
    injection hv with hv
    rw [hv]
    rfl
  | none =>
    have hh : has D kl = false := by rw [(hf kl).1, hx]; rfl
    rw [atKey_of_not_has hh] at hv
    obtain ⟨hv, _⟩ := hv
    injection hv with hv
    rw [hv]
    rfl
theorem MapF.upd {t e : TypeId} (h : MapF P k w b f) (K : Keyed P k) (ht : P.underlying t = some (.map k e)) {n : Nat} (hr : RoomF f n) (hn : n < maxLen) {key val : Value} {kl : Lit} (hkey : keyOf P k key = some kl) :
    ∃ w', (Instr.mapUpdate t (.map (some b)) key val).run P w = .ok () w' ∧ MapF P k w' b (updF f kl val) ∧ w.mapTurned w' b := by
  obtain ⟨D, h, hf⟩ := h
  obtain ⟨w', h1, h2, h3⟩ := h.store K ht (Nat.lt_of_le_of_lt (size_le_of_room K h hf hr) hn) (d := .held val) (ps := []) hkey rfl
  exact ⟨w', h1, MapF.of_own h2 (hf.put h.isMap (K.key hkey) val), h3⟩
theorem MapF.drop {t e : TypeId} (h : MapF P k w b f) (K : Keyed P k) (ht : P.underlying t = some (.map k e)) {key : Value} {kl : Lit} (hkey : keyOf P k key = some kl) (ty : TypeId) :
    ∃ w', (Builtin.delete_ #[t, k] ty #[.map (some b), key]).run P w = .ok (.tuple #[]) w' ∧ MapF P k w' b (delF f kl) ∧ w.mapTurned w' b := by
  obtain ⟨D, h, hf⟩ := h
  obtain ⟨w', h1, h2, h3⟩ := h.drop K ht hkey ty
  exact ⟨w', h1, MapF.of_own h2 (hf.del (K.key hkey)), h3⟩
theorem run_clear_map {t e : TypeId} (h : MapF P k w b f) (ht : P.underlying t = some (.map k e)) (ty : TypeId) :
    ∃ w', (Builtin.clear_ #[t] ty #[.map (some b)]).run P w = .ok (.tuple #[]) w' ∧ MapF P k w' b (fun _ => none) ∧ w.mapTurned w' b := by
  obtain ⟨D, ⟨es, clock, hb, F, hs, hD⟩, hf⟩ := h
  refine ⟨_, ?_, MapF.of_own (n := 0) (D := .map []) ⟨#[], clock, ChangeMaps.heap_setBlock_same hb _, ⟨by simp, MapKept.stamped_empty clock, by simp⟩, Nat.le_refl _, rfl⟩ (fun kl => ⟨rfl, fun v h => by cases h⟩), ⟨es, clock, #[], clock, hb, rfl⟩⟩
  simp [Builtin.clear_, run_underlying ht, MapKept.run_getObj_map hb, MapKept.run_setObj_map _ hb, Result.andThen, ChangeMaps.setBlock]
theorem _root_.Go.World.mapTurned.fr {S : Nat → Prop} (h : w.mapTurned w1 b) (hS : S b) : Fr S w w1 := by
  have hg := h.grown
  exact ⟨hg.os, hg.tape, hg.output, hg.size, fun i hi hn => hg.block i hi (fun e => hn (by injection e with e; rw [e]; exact hS))⟩
end
section
variable {P : Program} {w : World} {ops : Array Oper} {rest : List Oper} {o : Oper} {a : Act} {Q : Exit → Act → World → Prop} {k e : TypeId} {b : Nat} {f : Lit → Option Value}
theorem wpList_look (hg : o.guard = none) (m x : Operand) (t : TypeId) (hop : o.op = Op.lookup t m x true) (K : Keyed P k) (ht : P.underlying t = some (.map k e)) {z : Value} (hz : (zeroValue e).run P w = .ok z w)
    (hm : a.eval m = .map (some b)) (hown : MapF P k w b f) (key : Value) (kl : Lit) (hx : a.eval x = key) (hkey : keyOf P k key = some kl) (r : Option Value) (hr : f kl = r)
    (hK : wpList P ops Q rest (a.put o.dst (.tuple #[r.getD z, .bool r.isSome])) w) : wpList P ops Q (o :: rest) a w := by
  subst hr
  refine wpList_plain hg fun K' hK' => ?_
  have hrun := hown.look K ht hz hkey
  unfold Oper.wp
  simp [execOp, hop, hm, hx, hrun, Result.andThen]
  exact hK' _ _ hK
theorem wpList_upd (hg : o.guard = none) (m x v : Operand) (t : TypeId) (hop : o.op = Op.mapUpdate t m x v) (K : Keyed P k) (ht : P.underlying t = some (.map k e)) (n : Nat) (hn : n < maxLen)
    (hm : a.eval m = .map (some b)) (hown : MapF P k w b f) (hr : RoomF f n) (key val : Value) (kl : Lit) (hx : a.eval x = key) (hv : a.eval v = val) (hkey : keyOf P k key = some kl)
    (hK : ∀ w', MapF P k w' b (updF f kl val) → w.mapTurned w' b → wpList P ops Q rest (a.put o.dst undef) w') : wpList P ops Q (o :: rest) a w := by
  refine wpList_plain hg fun K' hK' => ?_
  obtain ⟨w', hrun, h1, h2⟩ := hown.upd K ht hr hn (val := val) hkey
  unfold Oper.wp
  simp [execOp, hop, hm, hx, hv, hrun, Result.andThen]
  exact hK' _ _ (hK w' h1 h2)
theorem wpList_del (hg : o.guard = none) (m x : Operand) (t : TypeId) (hop : o.op = Op.call { callee := Callee.builtin Builtin.delete, args := #[m, x], argTypes := #[t, k] }) (K : Keyed P k) (ht : P.underlying t = some (.map k e))
    (hm : a.eval m = .map (some b)) (hown : MapF P k w b f) (key : Value) (kl : Lit) (hx : a.eval x = key) (hkey : keyOf P k key = some kl)
    (hK : ∀ w', MapF P k w' b (delF f kl) → w.mapTurned w' b → wpList P ops Q rest (a.put o.dst (.tuple #[])) w') : wpList P ops Q (o :: rest) a w := by
  refine wpList_plain hg fun K' hK' => ?_
  obtain ⟨w', hrun, h1, h2⟩ := hown.drop K ht hkey o.type
  unfold Oper.wp
  simp [execOp, hop, resolve, invoke, builtin, hm, hx, hrun, Result.andThen]
  exact hK' _ _ (hK w' h1 h2)
theorem wpList_clear (hg : o.guard = none) (m : Operand) (t : TypeId) (hop : o.op = Op.call { callee := Callee.builtin Builtin.clear, args := #[m], argTypes := #[t] }) (ht : P.underlying t = some (.map k e))
    (hm : a.eval m = .map (some b)) (hown : MapF P k w b f)
    (hK : ∀ w', MapF P k w' b (fun _ => none) → w.mapTurned w' b → wpList P ops Q rest (a.put o.dst (.tuple #[])) w') : wpList P ops Q (o :: rest) a w := by
  refine wpList_plain hg fun K' hK' => ?_
  obtain ⟨w', hrun, h1, h2⟩ := run_clear_map hown ht o.type
  unfold Oper.wp
  simp [execOp, hop, resolve, invoke, builtin, hm, hrun, Result.andThen]
  exact hK' _ _ (hK w' h1 h2)
end
end Go.Proofs.YtbfogcckbhkciaaGreat.Hand
namespace Go.Proofs.YtbfogcckbhkciaaGreat.Hand
set_option linter.unusedVariables false
set_option linter.unusedSimpArgs false
open Go.RowKit Go.Proofs.YtbfogcckbhkciaaGreatW.PrintWords
theorem rRight_calls (a : Int) (w : World) : Calls Tryz.prog 57 #[.int .i64 a] w fun e w' => e = .returned (.bool (rightB a)) ∧ w = w' := by
  by_cases h1 : a = 1
  · go_enter Tryz.func57, Tryz.ntmps57
    go_wp2
    go_ret
    exact ⟨by simp [rightB, h1], rfl⟩
  · by_cases h2 : a = 2
    · go_enter Tryz.func57, Tryz.ntmps57
      go_wp2
      go_ret
      exact ⟨by simp [rightB, h2], rfl⟩
    · by_cases h3 : a = 4
      · go_enter Tryz.func57, Tryz.ntmps57
        go_wp2
        go_ret
        exact ⟨by simp [rightB, h3], rfl⟩
      · go_enter Tryz.func57, Tryz.ntmps57
        go_wp2
        go_ret
        exact ⟨by rw [rightB, beq_false_of_ne h1, beq_false_of_ne h2, beq_false_of_ne h3]; rfl, rfl⟩
theorem rRight_of (w : World) {a : Int} {b : Bool} (h : rightB a = b) : Calls Tryz.prog 57 #[.int .i64 a] w fun e w' => e = .returned (.bool b) ∧ w = w' := (rRight_calls a w).mono fun e w' he => ⟨by rw [he.1, h], he.2⟩
def topN (width : Int) : Int := if width = 1 then 255 else if width = 2 then 65535 else if width = 4 then 4294967295 else 18446744073709551615
set_option maxHeartbeats 1000000 in
theorem rTop_calls (width : Int) (h : rightB width = true) (w : World) : Calls Tryz.prog 63 #[.int .i64 width] w fun e w' => e = .returned (.int .u64 (topN width)) ∧ w = w' := by
  rcases width_of h with rfl | rfl | rfl | rfl
  all_goals
    clear h
    go_enter Tryz.func63, Tryz.ntmps63
    go_wp2
    go_rounds 9
    go_ret
    exact ⟨rfl, rfl⟩
theorem str_app (a b : List Int) : strOfNums a ++ strOfNums b = strOfNums (a ++ b) := by
  apply ByteArray.ext
  rw [ByteArray.data_append]
  simp [strOfNums]
def rfitsB (n width : Int) : Bool := rightB width && decide (n ≤ topN width)
set_option maxHeartbeats 1000000 in
theorem rPut_yes (width n : Int) (w : World) (h : rfitsB n width = true) (hn : 0 ≤ n) : Calls Tryz.prog 37 #[.int .i64 width, .int .u64 n] w fun e w' => e = .returned (.string (strOfNums (leB n width.toNat))) ∧ Below w.heap.size w w' := by
  obtain ⟨hr, ht⟩ : rightB width = true ∧ n ≤ topN width := by simpa [rfitsB] using h
  have hw : 0 < width ∧ width ≤ 8 := by
    rcases width_of hr with rfl | rfl | rfl | rfl <;> omega
  have hm : n ≤ 18446744073709551615 := by
    refine Int.le_trans ht ?_
    unfold topN
    repeat' split
    all_goals omega
  obtain ⟨hw0, hw8⟩ := hw
  have HR := Aside0.mk hr
  clear h hr
  have hq : ∀ k : Nat, 0 ≤ n / 2 ^ (8 * k) ∧ n / 2 ^ (8 * k) ≤ 18446744073709551615 := fun k => by
    have h2 : (0 : Int) < 2 ^ (8 * k) := Int.pow_pos (by omega)
    exact ⟨Int.ediv_nonneg hn (by omega), Int.le_trans (Int.ediv_le_self _ hn) hm⟩
  have HQ := Aside0.mk hq
  clear hq hm
  go_enter Tryz.func37, Tryz.ntmps37
  go_wp2_with (first | (go_at_call 57; refine (rRight_of _ HR.out).mono ?_; rintro e w' ⟨rfl, rfl⟩) | (go_at_call 63; refine (rTop_calls width HR.out _).mono ?_; rintro e w' ⟨rfl, rfl⟩))
  clear ht
  go_loopw [1, 5, 6] (fun vn vs i wr => ∃ (k : Nat) (q : Int), k ≤ width.toNat ∧ i = .int .i64 k ∧ vn = .int .u64 q ∧ Aside0 (q = n / 2 ^ (8 * k)) ∧ vs = .string (strOfNums (leB n k)) ∧ Below w.heap.size w wr) (fun _ _ i _ => width.toNat - (intOf i).toNat)
  case atStart => exact ⟨0, n, Nat.zero_le _, rfl, rfl, ⟨by simp⟩, rfl, Below.refl _ _⟩
  case round =>
    obtain ⟨k, q, hk, rfl, rfl, hq, rfl, hb⟩ := hrel
    have hq0 : 0 ≤ q ∧ q ≤ 18446744073709551615 := hq.out ▸ HQ.out k
    obtain ⟨hq0, hq1⟩ := hq0
    have HB := Aside0.mk hb
    clear hb
    by_cases hlt : (k : Int) < width
    · have hconv := run_convert_bytes_arg (P := Tryz.prog) (wr.alloc (.cells #[.int .u8 (q % 256)] 5)) 22 5 Tryz.underlying22 Tryz.underlying5 wr.heap.size 0 1 1 [q % 256] rfl (fun i hi => by (obtain rfl : i = 0 := by omega); simp) 9 Tryz.underlying9
      have hz1 : (strOfNums (leB n k)).size ≤ 8 := by rw [strOfNums_size, leB_length]; omega
      have hz2 : (strOfNums [q % 256]).size ≤ 1 := by rw [strOfNums_size]; exact Nat.le_refl _
      go_wp2
      go_roundw
      case rel => exact ⟨k + 1, q / 256, by omega, by go_num, rfl, ⟨by rw [hq.out, Int.ediv_ediv_of_nonneg (Int.le_of_lt (Int.pow_pos (by omega))), Nat.mul_add, Int.pow_add]; rfl⟩, by rw [str_app, leB, hq.out], below_alloc HB.out _⟩
      case measure => simp [intOf]; omega
    · have hk2 : k = width.toNat := by omega
      have HE := Aside0.mk hk2
      clear hk2
      go_wp2
      go_ret
      exact ⟨by rw [← HE.out]; rfl, HB.out⟩
end Go.Proofs.YtbfogcckbhkciaaGreat.Hand
namespace Go.Proofs.YtbfogcckbhkciaaGreat.Hand
set_option linter.unusedVariables false
set_option linter.unusedSimpArgs false
open Go.RowKit Go.Proofs.YtbfogcckbhkciaaGreatW.PrintWords
def Bys (l : List Int) : Prop := ∀ x ∈ l, 0 ≤ x ∧ x < 256
theorem rd_bys {l : List Int} (h : Bys l) (i : Int) : 0 ≤ rd l i ∧ rd l i < 256 := by
  unfold rd
  rcases Nat.lt_or_ge i.toNat l.length with hl | hl
  · rw [List.getD_eq_getElem?_getD, List.getElem?_eq_getElem hl]
    exact h _ (List.getElem_mem hl)
  · rw [List.getD_eq_getElem?_getD, List.getElem?_eq_none hl]
    exact ⟨Int.le_refl _, by decide⟩
theorem bytesOf_bys (s : ByteArray) : Bys (bytesOf s) := by
  intro x hx
  simp only [bytesOf, List.mem_map] at hx
  obtain ⟨b, _, rfl⟩ := hx
  have := b.toNat_lt
  omega
def numL : List Int → Int
  | [] => 0
  | x :: l => x + 256 * numL l
theorem numL_nonneg {l : List Int} (h : Bys l) : 0 ≤ numL l := by
  induction l with
  | nil => exact Int.le_refl _
  | cons x l ih =>
    have := ih (fun y hy => h y (List.mem_cons_of_mem _ hy))
    have := h x List.mem_cons_self
    unfold numL
    omega
theorem numL_lt {l : List Int} (h : Bys l) : numL l < 256 ^ l.length := by
  induction l with
  | nil => decide
  | cons x l ih =>
    have := ih (fun y hy => h y (List.mem_cons_of_mem _ hy))
    have := h x List.mem_cons_self
    unfold numL
    rw [List.length_cons, Int.pow_succ]
    omega
theorem numL_append (l m : List Int) : numL (l ++ m) = numL l + 256 ^ l.length * numL m := by
  induction l with
  | nil => simp [numL]
  | cons x l ih =>
    rw [List.cons_append, numL, numL, ih, List.length_cons, Int.pow_succ, Int.mul_add, ← Int.mul_assoc, Int.add_assoc, Int.mul_comm 256 (256 ^ l.length)]
def cut (l : List Int) (a w : Nat) : List Int := (l.drop a).take w
theorem cut_bys {l : List Int} (h : Bys l) (a w : Nat) : Bys (cut l a w) := fun x hx => h x (List.mem_of_mem_drop (List.mem_of_mem_take hx))
theorem cut_length {l : List Int} {a w : Nat} (h : a + w ≤ l.length) : (cut l a w).length = w := by
  simp only [cut, List.length_take, List.length_drop]
  omega
theorem cut_succ {l : List Int} {a k : Nat} (h : a + k < l.length) : cut l a (k + 1) = cut l a k ++ [rd l ((a : Int) + k)] := by
  have hd : k < (l.drop a).length := by rw [List.length_drop]; omega
  rw [cut, cut, List.take_succ_eq_append_getElem hd, List.getElem_drop]
  congr 2
  unfold rd
  rw [show ((a : Int) + k).toNat = a + k by omega, List.getD_eq_getElem?_getD, List.getElem?_eq_getElem h]
  rfl
def hiN (l : List Int) (a : Int) (w : Nat) : Nat → Int
  | 0 => 0
  | j + 1 => hiN l a w j * 256 + rd l (a + (w - 1 - j : Int))
theorem hiN_range {l : List Int} (h : Bys l) (a : Int) (w j : Nat) : 0 ≤ hiN l a w j ∧ hiN l a w j < 256 ^ j := by
  induction j with
  | zero => exact ⟨Int.le_refl _, by simp [hiN]⟩
  | succ j ih =>
    have := rd_bys h (a + (w - 1 - j : Int))
    unfold hiN
    rw [Int.pow_succ]
    omega
theorem hiN_eq {l : List Int} (a w j : Nat) (hj : j ≤ w) (h : a + w ≤ l.length) : hiN l a w j = numL (cut l (a + (w - j)) j) := by
  induction j with
  | zero => simp [hiN, cut, numL]
  | succ j ih =>
    rw [hiN, ih (by omega)]
    have hlt : a + (w - (j + 1)) < l.length := by omega
    have e : cut l (a + (w - (j + 1))) (j + 1) = rd l ((a : Int) + (w - 1 - j : Int)) :: cut l (a + (w - j)) j := by
      unfold cut
      rw [List.drop_eq_getElem_cons hlt, List.take_succ_cons, show a + (w - (j + 1)) + 1 = a + (w - j) by omega]
      congr 1
      unfold rd
      rw [show ((a : Int) + (w - 1 - j : Int)).toNat = a + (w - (j + 1)) by omega, List.getD_eq_getElem?_getD, List.getElem?_eq_getElem hlt]
      rfl
    rw [e, numL]
    omega
theorem pow256 (k : Nat) : (256 : Int) ^ k = 2 ^ (8 * k) := by
  rw [Int.pow_mul]
  rfl
theorem u64_wrap_of {x : Int} (h0 : 0 ≤ x) (h1 : x < 18446744073709551616) : IntKind.u64.wrap x = x := by
  have : IntKind.u64.wrap x = x % 18446744073709551616 := by simp [IntKind.wrap, IntKind.signed, IntKind.bits]
  omega
theorem or_split (a x : Int) (k : Nat) (hk : k < 8) (ha : 0 ≤ a) (ha2 : a < 2 ^ (8 * k)) (hx : 0 ≤ x) (hx2 : x < 256) : bits .or .u64 a (x * 2 ^ (8 * k)) = a + 2 ^ (8 * k) * x := by
  obtain ⟨a, rfl⟩ := Int.eq_ofNat_of_zero_le ha
  obtain ⟨x, rfl⟩ := Int.eq_ofNat_of_zero_le hx
  have ha3 : a < 2 ^ (8 * k) := by exact_mod_cast ha2
  have hx3 : x < 256 := by omega
  have hp : (2 : Nat) ^ (8 * k) ≤ 2 ^ 56 := Nat.pow_le_pow_right (by omega) (by omega)
  have hm : x * 2 ^ (8 * k) < 18446744073709551616 := by
    calc x * 2 ^ (8 * k) ≤ 255 * 2 ^ 56 := Nat.mul_le_mul (by omega) hp
      _ < 18446744073709551616 := by decide
  have e : ((x : Int) * 2 ^ (8 * k)) = ((x * 2 ^ (8 * k) : Nat) : Int) := by push_cast; rfl
  rw [e, u64_or_nat a _ (by omega) hm]
  have h2 := Nat.shiftLeft_add_eq_or_of_lt ha3 x
  rw [Nat.shiftLeft_eq] at h2
  rw [Nat.or_comm, ← h2]
  push_cast
  rw [Int.mul_comm, Int.add_comm]
theorem getN_eq {l : List Int} (hb : Bys l) (a k : Nat) (hk : k ≤ 8) (h : a + k ≤ l.length) : getN l a k = numL (cut l a k) := by
  induction k with
  | zero => simp [getN, cut, numL]
  | succ k ih =>
    have hx := rd_bys hb ((a : Int) + k)
    have hl := numL_lt (cut_bys hb a k)
    rw [cut_length (by omega), pow256] at hl
    have h0 := numL_nonneg (cut_bys hb a k)
    have hp : (2 : Int) ^ (8 * k) ≤ 2 ^ 56 := by
      have : (2 : Nat) ^ (8 * k) ≤ 2 ^ 56 := Nat.pow_le_pow_right (by omega) (by omega)
      exact_mod_cast this
    have hp0 : (0 : Int) < 2 ^ (8 * k) := Int.pow_pos (by omega)
    have hm : rd l ((a : Int) + k) * 2 ^ (8 * k) < 18446744073709551616 := by
      calc rd l ((a : Int) + k) * 2 ^ (8 * k) ≤ 255 * 2 ^ 56 := Int.mul_le_mul (by omega) hp (by omega) (by omega)
        _ < 18446744073709551616 := by decide
    have hm0 : 0 ≤ rd l ((a : Int) + k) * 2 ^ (8 * k) := Int.mul_nonneg hx.1 (by omega)
    rw [getN, ih (by omega) (by omega), u64_wrap_of hx.1 (by omega), u64_wrap_of hm0 hm, or_split _ _ k (by omega) h0 hl hx.1 hx.2, cut_succ (by omega), numL_append, cut_length (by omega), pow256]
    simp [numL]
end Go.Proofs.YtbfogcckbhkciaaGreat.Hand
namespace Go.Proofs.YtbfogcckbhkciaaGreat.Hand
set_option linter.unusedVariables false
set_option linter.unusedSimpArgs false
open Go.RowKit
end Go.Proofs.YtbfogcckbhkciaaGreat.Hand
namespace Go.Proofs.YtbfogcckbhkciaaGreat.Hand
set_option linter.unusedVariables false
set_option linter.unusedSimpArgs false
open Go.RowKit Go.Proofs.YtbfogcckbhkciaaGreatW.PrintWords
theorem pow_le7 (j : Nat) (h : j ≤ 7) : (256 : Int) ^ j ≤ 72057594037927936 := by
  have h1 : 256 ^ j ≤ 256 ^ 7 := Nat.pow_le_pow_right (by omega) h
  have h2 : (256 : Int) ^ j = ((256 ^ j : Nat) : Int) := (Int.natCast_pow 256 j).symm
  have h3 : (256 : Nat) ^ 7 = 72057594037927936 := by decide
  omega
theorem inside_of {at_ width : Int} {n : Nat} (h : (rightB width && insideB at_ width n) = true) : ∃ a m : Nat, at_ = a ∧ width = m ∧ 0 < m ∧ m ≤ 8 ∧ a + m ≤ n := by
  have hii : rightB width = true ∧ 0 ≤ at_ ∧ at_ ≤ n ∧ width ≤ n - at_ := by
    simpa only [insideB, Bool.and_eq_true, decide_eq_true_eq] using h
  obtain ⟨hr, h0, h1, h2⟩ := hii
  have hw : 0 < width ∧ width ≤ 8 := by
    rcases width_of hr with rfl | rfl | rfl | rfl <;> omega
  exact ⟨at_.toNat, width.toNat, by omega, by omega, by omega, by omega, by omega⟩
set_option maxHeartbeats 1000000 in
theorem rGet_yes (s : ByteArray) (at_ width : Int) (w : World) (hs : s.size ≤ 140737488355328) (h : (rightB width && insideB at_ width s.size) = true) :
    Calls Tryz.prog 28 #[.string s, .int .i64 at_, .int .i64 width] w fun e w' => e = .returned (.tuple #[.int .u64 (numL (cut (bytesOf s) at_.toNat width.toNat)), .bool true]) ∧ w = w' := by
  obtain ⟨a, m, rfl, rfl, hm0, hm8, ham⟩ := inside_of h
  have HR := Aside0.mk (show rightB m = true by simpa using (Bool.and_eq_true_iff.1 h).1)
  have HH := Aside0.mk (fun j => hiN_range (bytesOf_bys s) a m j)
  have h1 : ¬ ((a : Int) > (s.size : Int)) := by omega
  have h2 : ¬ ((s.size : Int) - (a : Int) < (m : Int)) := by omega
  clear h
  go_enter Tryz.func28, Tryz.ntmps28
  go_wp2_with (go_at_call 57; refine (rRight_of _ HR.out).mono ?_; rintro e w' ⟨rfl, rfl⟩)
  go_loop [8, 9] (fun vn i => ∃ (j : Nat) (q : Int), j ≤ m ∧ i = .int .i64 ((m : Int) - 1 - j) ∧ vn = .int .u64 q ∧ Aside0 (q = hiN (bytesOf s) a m j)) (fun _ i => (intOf i + 1).toNat)
  case atStart => exact ⟨0, 0, Nat.zero_le _, by go_num, rfl, ⟨rfl⟩⟩
  case round =>
    obtain ⟨j, q, hj, rfl, rfl, hq⟩ := hrel
    by_cases hlt : j < m
    · have hq0 : 0 ≤ q ∧ q * 256 + 256 ≤ 18446744073709551616 := by
        have := HH.out j
        rw [← hq.out] at this
        have hp := pow_le7 j (by omega)
        omega
      obtain ⟨hq0, hq1⟩ := hq0
      have hb := bt_at s (a + ((m : Int) - 1 - j))
      have hb2 := bt_range s (a + ((m : Int) - 1 - j))
      obtain ⟨hb2, hb3⟩ := hb2
      have HS := Aside0.mk (show hiN (bytesOf s) a m (j + 1) = q * 256 + bt s (a + ((m : Int) - 1 - j)) by rw [hiN, hq.out, rd_bytesOf])
      go_wp2
      go_round
      case rel => exact ⟨j + 1, _, by omega, by go_num, rfl, ⟨HS.out.symm⟩⟩
      case measure => simp [intOf]; omega
    · obtain rfl : j = m := by omega
      have HE := Aside0.mk (hiN_eq (l := bytesOf s) a j j (Nat.le_refl _) (by rw [bytesOf_length]; exact ham))
      go_wp2
      go_ret2
      exact ⟨by rw [hq.out, HE.out]; simp, rfl⟩
end Go.Proofs.YtbfogcckbhkciaaGreat.Hand
namespace Go.Proofs.YtbfogcckbhkciaaGreat.Hand
set_option linter.unusedVariables false
set_option linter.unusedSimpArgs false
open Go.RowKit Go.Proofs.YtbfogcckbhkciaaGreatW.PrintWords
theorem conv_own {w : World} {base : Nat} {ok : Nat → Prop} {v : Value} {xs : List Int} (h : Kd.R (Kd.int .u8) 5 w base ok v xs) : (convert 22 9 v).run Tryz.prog w = .ok (.string (strOfNums xs)) w :=
  own_string Tryz.underlying22 Tryz.underlying5 Tryz.underlying9 (Kd.own_of_R h)
theorem conv_some {w : World} (a : Addr) {c : Nat} {xs : List Int} (h : ReadsInt w .u8 (some a) xs.length xs) : (convert 22 9 (.slice (some a) xs.length c)).run Tryz.prog w = .ok (.string (strOfNums xs)) w := by
  have hl : (loadCells a xs.length).run Tryz.prog w = .ok (xs.map (Value.int .u8)).toArray w := by
    have := run_loadCells_list (P := Tryz.prog) w a (xs.map (Value.int .u8)) (fun j v hj => by
      have hjl : j < xs.length := by
        rcases Nat.lt_or_ge j xs.length with h | h
        · exact h
        · simp [List.getElem?_eq_none (show (xs.map (Value.int .u8)).length ≤ j by simpa using h)] at hj
      obtain ⟨ad, he, hc⟩ := h.2.2 (by omega)
      obtain rfl := Option.some.inj he
      rw [hc j hjl]
      simp [List.getElem?_eq_getElem hjl] at hj
      subst hj
      simp [List.getD, List.getElem?_eq_getElem hjl])
    simpa using this
  rw [run_convert_bytes_string w 22 9 5 _ xs.length c Tryz.underlying22 Tryz.underlying5 Tryz.underlying9, run_bytesToString w _ xs.length c xs hl, foldl_push_bytes]
  simp [strOfNums, ByteArray.empty, ByteArray.emptyWithCapacity]
  rfl
theorem conv_reads {w : World} {A : Option Addr} {c : Nat} {xs : List Int} (h : ReadsInt w .u8 A xs.length xs) : (convert 22 9 (.slice A xs.length c)).run Tryz.prog w = .ok (.string (strOfNums xs)) w := by
  cases A with
  | none =>
    obtain rfl : xs = [] := by
      cases xs with
      | nil => rfl
      | cons x l => exact absurd (h.2.2 (by simp)) (by simp)
    exact run_convert_bytes_nil w 22 5 Tryz.underlying22 Tryz.underlying5 0 c 9 Tryz.underlying9
  | some a =>
    exact conv_some a h
theorem reads_own2 {w : World} {base : Nat} {ok : Nat → Prop} {v : Value} {xs : List Int} (h : Kd.R (Kd.int .u8) 5 w base ok v xs) : ∃ A c, v = .slice A xs.length c ∧ xs.length ≤ c ∧ ReadsInt w .u8 A xs.length xs := by
  obtain ⟨A, c, he, hl, hc⟩ := Kd.R_reads h
  exact ⟨A, c, he, hl, Kd.reads_of_C (d := (0 : Int)) hc⟩
theorem info_of : ∃ i, Tryz.prog.info? 5 = some i ∧ i.size = 1 := by
  obtain ⟨i, hi, hz⟩ := Option.map_eq_some_iff.1 info_u8
  simp only [Prod.mk.injEq] at hz
  exact ⟨i, hi, hz.2.1⟩
theorem drop_run (A : Option Addr) (c : Nat) (xs : List Int) (j : Nat) (hj : j ≤ xs.length) (hc : xs.length ≤ c) : ∃ A' : Option Addr, (∀ W : World, (Instr.slice 22 (.slice A xs.length c) (some (.int .i64 (j : Int))) none none).run Tryz.prog W = .ok (.slice A' (xs.length - j) (c - j)) W) ∧
    ∀ w : World, ReadsInt w .u8 A xs.length xs → ReadsInt w .u8 A' (xs.length - j) (xs.drop j) := by
  obtain ⟨i, hi, hz⟩ := info_of
  obtain ⟨A', h1, h2, _⟩ := print_drop_of (Value.int .u8) (0 : Int) 22 5 .i64 Tryz.underlying22 hi hz A c xs j (by omega) (by omega) hc
  refine ⟨A', by simpa using h1, fun w hw => ?_⟩
  have := h2 w hw
  simpa [List.length_drop, ReadsInt, ReadsOf] using this
def gNum (l : List Int) (at_ width : Int) : Int := if rightB width && insideB at_ width l.length then numL (cut l at_.toNat width.toNat) else 0
theorem get_any (A : Option Addr) (c : Nat) (l : List Int) (at_ width : Int) (w : World) (hr : ReadsInt w .u8 A l.length l) (hb : Bys l) :
    Calls Tryz.prog 56 #[.slice A l.length c, .int .i64 at_, .int .i64 width] w fun e w' => e = .returned (.tuple #[.int .u64 (gNum l at_ width), .bool (rightB width && insideB at_ width l.length)]) ∧ Below w.heap.size w w' := by
  cases h : (rightB width && insideB at_ width l.length) with
  | true =>
    obtain ⟨a, m, rfl, rfl, hm0, hm8, ham⟩ := inside_of h
    refine (get_yes l A c a m w hr h).mono fun e w' he => ⟨?_, he.2⟩
    rw [he.1, gNum, h, if_pos rfl, Int.toNat_natCast, getN_eq hb a m hm8 ham]
    rfl
  | false =>
    refine (get_no l A c at_ width w hr.2.1 h).mono fun e w' he => ⟨?_, he.2⟩
    rw [he.1, gNum, h]
    rfl
theorem bytes_str {l : List Int} (hb : Bys l) : bytesOf (strOfNums l) = l := by
  unfold bytesOf
  rw [strOfNums_data, List.map_map]
  conv => rhs; rw [← List.map_id l]
  apply List.map_congr_left
  intro x hx
  have := hb x hx
  simp only [Function.comp, UInt8.toNat_ofNat', id]
  omega
end Go.Proofs.YtbfogcckbhkciaaGreat.Hand
namespace Go.Proofs.YtbfogcckbhkciaaGreat.Hand
set_option linter.unusedVariables false
set_option linter.unusedSimpArgs false
open Go.RowKit Go.Proofs.YtbfogcckbhkciaaGreatW.PrintWords
theorem conv_take {w : World} {A : Option Addr} {c : Nat} {xs : List Int} (n : Nat) (hn : n ≤ xs.length) (h : ReadsInt w .u8 A xs.length xs) : (convert 22 9 (.slice A n c)).run Tryz.prog w = .ok (.string (strOfNums (xs.take n))) w := by
  have hl : (xs.take n).length = n := by rw [List.length_take]; omega
  have h2 : ReadsInt w .u8 A (xs.take n).length (xs.take n) := ⟨rfl, by rw [hl]; have := h.2.1; omega, fun h0 => by
    obtain ⟨ad, he, hc⟩ := h.2.2 (by rw [hl] at h0; omega)
    refine ⟨ad, he, fun j hj => ?_⟩
    rw [hc j (by omega)]
    congr 2
    rw [List.getD_eq_getElem?_getD, List.getD_eq_getElem?_getD, List.getElem?_take_of_lt (by omega)]⟩
  have := conv_reads (c := c) h2
  rwa [hl] at this
end Go.Proofs.YtbfogcckbhkciaaGreat.Hand
namespace Go.Proofs.YtbfogcckbhkciaaGreat.Hand
set_option linter.unusedVariables false
set_option linter.unusedSimpArgs false
open Go.RowKit Go.Proofs.YtbfogcckbhkciaaGreatW.PrintWords
theorem fit1 (n : Int) (h0 : 0 ≤ n) (h1 : n < 18446744073709551616) : fitsB n 1 = decide (n ≤ 255) := by
  show (true && (1 == (8 : Int) || n / 256 == 0)) = _
  rw [Bool.true_and, show (1 == (8 : Int)) = false from rfl, Bool.false_or]
  rw [Bool.eq_iff_iff]
  simp only [beq_iff_eq, decide_eq_true_eq]
  omega
theorem fit2 (n : Int) (h0 : 0 ≤ n) (h1 : n < 18446744073709551616) : fitsB n 2 = decide (n ≤ 65535) := by
  show (true && (2 == (8 : Int) || n / 65536 == 0)) = _
  rw [Bool.true_and, show (2 == (8 : Int)) = false from rfl, Bool.false_or]
  rw [Bool.eq_iff_iff]
  simp only [beq_iff_eq, decide_eq_true_eq]
  omega
theorem fit4 (n : Int) (h0 : 0 ≤ n) (h1 : n < 18446744073709551616) : fitsB n 4 = decide (n ≤ 4294967295) := by
  show (true && (4 == (8 : Int) || n / 4294967296 == 0)) = _
  rw [Bool.true_and, show (4 == (8 : Int)) = false from rfl, Bool.false_or]
  rw [Bool.eq_iff_iff]
  simp only [beq_iff_eq, decide_eq_true_eq]
  omega
theorem fit8 (n : Int) (h0 : 0 ≤ n) (h1 : n < 18446744073709551616) : fitsB n 8 = decide (n ≤ 18446744073709551615) := by
  show (true && (8 == (8 : Int) || n / 18446744073709551616 == 0)) = _
  rw [Bool.true_and, show ((8 : Int) == 8) = true from rfl, Bool.true_or]
  exact (decide_eq_true (by omega)).symm
theorem fits_one (n width : Int) (h0 : 0 ≤ n) (h1 : n < 18446744073709551616) : fitsB n width = rfitsB n width := by
  cases hr : rightB width with
  | false => rw [fitsB, rfitsB, hr]; rfl
  | true =>
    rcases width_of hr with rfl | rfl | rfl | rfl
    · exact fit1 n h0 h1
    · exact fit2 n h0 h1
    · exact fit4 n h0 h1
    · exact fit8 n h0 h1
end Go.Proofs.YtbfogcckbhkciaaGreat.Hand
namespace Go.Proofs.YtbfogcckbhkciaaGreat.Hand
set_option linter.unusedVariables false
set_option linter.unusedSimpArgs false
open Go.ChangeShapes Go.WideShapes Go.ChangeAt Go.RowKit Go.Proofs.YtbfogcckbhkciaaGreatW.PrintWords
theorem wf_u64 {n : Int} (h : (Lit.int .u64 n).wf = true) : 0 ≤ n ∧ n < 18446744073709551616 := by
  simp only [Lit.wf, IntKind.min, IntKind.max, IntKind.signed, IntKind.bits, Bool.and_eq_true] at h
  simp at h
  omega
theorem wf_i64 {n : Int} (h : (Lit.int .i64 n).wf = true) : -9223372036854775808 ≤ n ∧ n ≤ 9223372036854775807 := by
  simp only [Lit.wf, IntKind.min, IntKind.max, IntKind.signed, IntKind.bits, Bool.and_eq_true] at h
  simp at h
  omega
end Go.Proofs.YtbfogcckbhkciaaGreat.Hand
namespace Go.Proofs.YtbfogcckbhkciaaGreat.Hand
set_option linter.unusedVariables false
set_option linter.unusedSimpArgs false
open Go.RowKit Go.Proofs.YtbfogcckbhkciaaGreatW.PrintWords
theorem put_any (P : Nat → Prop) (v : Value) (l : List Int) (width n : Int) (w : World) (ho : Kd.R (Kd.int .u8) 5 w 0 P v l) (hl : l.length + 8 ≤ 140737488355328) :
    Calls Tryz.prog 61 #[v, .int .i64 width, .int .u64 n] w fun e w' => ∃ v' : Value, e = .returned (.tuple #[v', .bool (fitsB n width)]) ∧ Kd.R (Kd.int .u8) 5 w' 0 (fun k => P k ∨ w.heap.size ≤ k) v' (l ++ putL n width) ∧ Fr P w w' := by
  cases h : fitsB n width with
  | true =>
    refine (put_calls P v l width n w ho h hl).mono ?_
    rintro e w' ⟨v', he, hr, hf⟩
    refine ⟨v', he, ?_, hf⟩
    rw [putL, h, if_pos rfl]
    exact hr
  | false =>
    refine (put_no v width n w h).mono ?_
    rintro e w' ⟨he, rfl⟩
    refine ⟨_, he, ?_, Fr.refl _ _⟩
    rw [putL, h, if_neg (by decide), List.append_nil]
    exact Kd.R_mono ho (fun _ hk => .inl hk)
theorem str_extract (l : List Int) (a b : Nat) : (strOfNums l).extract a b = strOfNums ((l.take b).drop a) := by
  apply ByteArray.ext
  rw [ByteArray.data_extract]
  apply Array.toList_inj.1
  simp [strOfNums, List.extract_eq_drop_take', List.map_take, List.map_drop]
theorem bel_step {a : Nat} {w w1 w2 : World} (h : Below a w w1) (h1 : Below w1.heap.size w1 w2) (ha : a ≤ w.heap.size := by exact Nat.le_refl _) : Below a w w2 := h.trans (h1.mono (Nat.le_trans ha h.size))
theorem str_inj {l m : List Int} (hl : Bys l) (hm : Bys m) (h : strOfNums l = strOfNums m) : l = m := by
  rw [← bytes_str hl, h, bytes_str hm]
end Go.Proofs.YtbfogcckbhkciaaGreat.Hand
namespace Go.Proofs.YtbfogcckbhkciaaGreat.Hand
set_option linter.unusedVariables false
set_option linter.unusedSimpArgs false
open Go.RowKit Go.Maps Go.Proofs.YtbfogcckbhkciaaGreatW.PrintWords
structure Dev where
  B : List Int
  S : Nat → Option (List Int)
  F : Nat → Bool
def word (B : List Int) (k : Nat) : List Int := cut B (8 * k) 8
structure Dev.Ok (d : Dev) : Prop where
  len : d.B.length % 8 = 0
  max : d.B.length ≤ 65536
  bys : Bys d.B
  dom : ∀ k, (d.S k).isSome = true → 8 * k + 8 ≤ d.B.length
  safe : ∀ k c, d.S k = some c → c.length = 8 ∧ Bys c
  sub : ∀ k, d.F k = true → (d.S k).isSome = true
def cellV (c : List Int) : Value := .agg (c.map (Value.int .u8)).toArray
def safeF (S : Nat → Option (List Int)) : Lit → Option Value
  | .int .i64 a => if 0 ≤ a then (S a.toNat).map cellV else none
  | _ => none
def flF (F : Nat → Bool) : Lit → Option Value
  | .int .i64 a => if 0 ≤ a ∧ F a.toNat = true then some (.int .i64 1) else none
  | _ => none
theorem safeF_nat (S : Nat → Option (List Int)) (k : Nat) : safeF S (.int .i64 k) = (S k).map cellV := by
  simp [safeF]
theorem flF_nat (F : Nat → Bool) (k : Nat) : flF F (.int .i64 k) = if F k = true then some (.int .i64 1) else none := by
  simp [flF]
def OwnD (v : Value) (s f : Nat) (b : Nat) : Prop := some b = v.ownBlock ∨ b = s ∨ b = f
structure HasD (w : World) (p : Nat) (v : Value) (s f : Nat) (d : Dev) : Prop where
  ptr : w.heap[p]? = some (.cells #[v, .map (some s), .map (some f)] 103 (0, 0))
  row : Kd.R (Kd.int .u8) 5 w 0 (fun k => k ≠ p) v d.B
  safe : MapF Tryz.prog 3 w s (safeF d.S)
  fl : MapF Tryz.prog 3 w f (flF d.F)
  ne : s ≠ f
  ok : d.Ok
theorem own_blk {α : Type} {k : Kd α} {e : Nat} {w : World} {base : Nat} {ok : Nat → Prop} {v : Value} {xs : List α} (h : k.R e w base ok v xs) {b : Nat} (hb : some b = v.ownBlock) : ∃ cs t fr, w.heap[b]? = some (.cells cs t fr) := by
  obtain ⟨_, inner, ho, _⟩ := h
  obtain ⟨cs, hc⟩ := own_typed ho b hb.symm
  exact ⟨_, _, _, hc⟩
section
variable {w w1 : World} {p : Nat} {v : Value} {s f : Nat} {d : Dev}
theorem HasD.own_lt (h : HasD w p v s f d) {b : Nat} (hb : OwnD v s f b) : b < w.heap.size := by
  rcases hb with hb | rfl | rfl
  · obtain ⟨cs, t, fr, hc⟩ := own_blk h.row hb
    exact blk_lt hc
  · exact h.safe.lt
  · exact h.fl.lt
theorem HasD.p_lt (h : HasD w p v s f d) : p < w.heap.size := blk_lt h.ptr
theorem HasD.p_own (h : HasD w p v s f d) : ¬ OwnD v s f p := by
  rintro (hb | hb | hb)
  · exact h.row.1 p hb.symm rfl
  · exact h.safe.ne_cells h.ptr hb
  · exact h.fl.ne_cells h.ptr hb
theorem HasD.v_ne (h : HasD w p v s f d) {b : Nat} (hb : some b = v.ownBlock) : b ≠ s ∧ b ≠ f := by
  obtain ⟨cs, t, fr, hc⟩ := own_blk h.row hb
  exact ⟨h.safe.ne_cells hc, h.fl.ne_cells hc⟩
theorem R_at {e : Nat} {ok : Nat → Prop} {xs : List Int} (h : Kd.R (Kd.int .u8) e w 0 ok v xs) (hb : ∀ b, some b = v.ownBlock → w1.heap[b]? = w.heap[b]?) : Kd.R (Kd.int .u8) e w1 0 ok v xs := by
  exact Kd.R_of_own (own_move (Kd.own_of_R h) (fun k hk => hb k hk.symm)) h.1
theorem HasD.same (h : HasD w p v s f d) (hp : w1.heap[p]? = w.heap[p]?) (hb : ∀ b, OwnD v s f b → w1.heap[b]? = w.heap[b]?) : HasD w1 p v s f d :=
  ⟨hp.trans h.ptr, R_at h.row (fun b h => hb b (.inl h)), h.safe.same (hb s (.inr (.inl rfl))), h.fl.same (hb f (.inr (.inr rfl))), h.ne, h.ok⟩
theorem HasD.fr {T : Nat → Prop} (h : HasD w p v s f d) (hf : Fr T w w1) (hp : ¬ T p) (hb : ∀ b, OwnD v s f b → ¬ T b) : HasD w1 p v s f d :=
  h.same (hf.block p h.p_lt hp) (fun b hb' => hf.block b (h.own_lt hb') (hb b hb'))
theorem HasD.move (h : HasD w p v s f d) (hb : Below w.heap.size w w1) : HasD w1 p v s f d :=
  h.same (hb.block p h.p_lt) (fun b hb' => hb.block b (h.own_lt hb'))
theorem HasD.reads (h : HasD w p v s f d) : ∃ A c, v = .slice A d.B.length c ∧ d.B.length ≤ c ∧ ReadsInt w .u8 A d.B.length d.B := reads_own2 h.row
theorem room_int {g : Lit → Option Value} (n : Nat) (h : ∀ kl, (g kl).isSome = true → ∃ k : Nat, k < n ∧ kl = .int .i64 k) : RoomF g n := by
  refine ⟨(List.range n).map (fun (k : Nat) => Lit.int .i64 k), by simp, fun kl hk => ?_⟩
  obtain ⟨k, hk1, rfl⟩ := h kl hk
  exact List.mem_map.2 ⟨k, List.mem_range.2 hk1, rfl⟩
theorem safeF_some {S : Nat → Option (List Int)} {kl : Lit} (h : (safeF S kl).isSome = true) : ∃ k : Nat, kl = .int .i64 k ∧ (S k).isSome = true := by
  unfold safeF at h
  split at h
  · rename_i a
    split at h
    · rename_i ha
      refine ⟨a.toNat, by rw [Int.toNat_of_nonneg ha], by simpa using h⟩
    · cases h
  · cases h
theorem flF_some {F : Nat → Bool} {kl : Lit} (h : (flF F kl).isSome = true) : ∃ k : Nat, kl = .int .i64 k ∧ F k = true := by
  unfold flF at h
  split at h
  · rename_i a
    split at h
    · rename_i ha
      exact ⟨a.toNat, by rw [Int.toNat_of_nonneg ha.1], ha.2⟩
    · cases h
  · cases h
theorem Dev.Ok.roomS {d : Dev} (h : d.Ok) : RoomF (safeF d.S) 8192 := room_int 8192 (fun kl hk => by
  obtain ⟨k, rfl, hs⟩ := safeF_some hk
  exact ⟨k, by have := h.dom k hs; have := h.max; omega, rfl⟩)
theorem Dev.Ok.roomF {d : Dev} (h : d.Ok) : RoomF (flF d.F) 8192 := room_int 8192 (fun kl hk => by
  obtain ⟨k, rfl, hs⟩ := flF_some hk
  exact ⟨k, by have := h.dom k (h.sub k hs); have := h.max; omega, rfl⟩)
end
theorem len_calls (w : World) (p : Nat) (v : Value) (s f : Nat) (d : Dev) (h : HasD w p v s f d) :
    Calls Tryz.prog 55 #[.pointer (some ⟨p, 0, none⟩)] w fun e w' => e = .returned (.int .i64 d.B.length) ∧ w = w' := by
  obtain ⟨A, c, rfl, _, _⟩ := h.reads
  have c0 := blk_cell h.ptr (i := 0) rfl
  clear h
  go_enter Tryz.func55, Tryz.ntmps55
  go_wp2
  go_ret
  exact ⟨rfl, rfl⟩
theorem bytes_calls (w : World) (p : Nat) (v : Value) (s f : Nat) (d : Dev) (h : HasD w p v s f d) :
    Calls Tryz.prog 41 #[.pointer (some ⟨p, 0, none⟩)] w fun e w' => ∃ u : Value, e = .returned u ∧ Kd.R (Kd.int .u8) 5 w' w.heap.size (fun _ => True) u d.B ∧ Below w.heap.size w w' := by
  obtain ⟨A, c, rfl, _, hr⟩ := h.reads
  have c0 := blk_cell h.ptr (i := 0) rfl
  have HR := Aside0.mk hr
  have hm := h.ok.max
  clear h hr
  go_enter Tryz.func41, Tryz.ntmps41
  go_wp2_with (go_at_call 54; (with_reducible refine (clone_bytes A c d.B w HR.out (by omega)).mono ?_); rintro e w' ⟨u, rfl, hu, hb⟩)
  go_ret
  exact ⟨u, rfl, hu, hb⟩
def insE (n : Nat) (at_ long : Int) : Int := if long < 0 then 1 else if at_ < 0 ∨ long > n ∨ at_ > n - long then 30 else 0
theorem ins_calls (w : World) (p : Nat) (v : Value) (s f : Nat) (d : Dev) (at_ long : Int) (h : HasD w p v s f d) :
    Calls Tryz.prog 53 #[.pointer (some ⟨p, 0, none⟩), .int .i64 at_, .int .i64 long] w fun e w' => e = .returned (.int .i64 (insE d.B.length at_ long)) ∧ w = w' := by
  obtain ⟨A, c, rfl, _, hr⟩ := h.reads
  have c0 := blk_cell h.ptr (i := 0) rfl
  have hm := h.ok.max
  clear h hr
  by_cases h1 : long < 0
  · have HE := Aside0.mk (show insE d.B.length at_ long = 1 by rw [insE, if_pos h1])
    go_enter Tryz.func53, Tryz.ntmps53
    go_wp2
    go_ret
    exact ⟨by rw [HE.out]; rfl, rfl⟩
  · by_cases h2 : at_ < 0
    · have HE := Aside0.mk (show insE d.B.length at_ long = 30 by rw [insE, if_neg h1, if_pos (.inl h2)])
      go_enter Tryz.func53, Tryz.ntmps53
      go_wp2
      go_ret
      exact ⟨by rw [HE.out]; rfl, rfl⟩
    · by_cases h3 : long > d.B.length
      · have HE := Aside0.mk (show insE d.B.length at_ long = 30 by rw [insE, if_neg h1, if_pos (.inr (.inl h3))])
        go_enter Tryz.func53, Tryz.ntmps53
        go_wp2
        go_ret
        exact ⟨by rw [HE.out]; rfl, rfl⟩
      · by_cases h4 : at_ > d.B.length - long
        · have HE := Aside0.mk (show insE d.B.length at_ long = 30 by rw [insE, if_neg h1, if_pos (.inr (.inr h4))])
          go_enter Tryz.func53, Tryz.ntmps53
          go_wp2
          go_ret
          exact ⟨by rw [HE.out]; rfl, rfl⟩
        · have HE := Aside0.mk (show insE d.B.length at_ long = 0 by rw [insE, if_neg h1, if_neg (by omega)])
          go_enter Tryz.func53, Tryz.ntmps53
          go_wp2
          go_ret
          exact ⟨by rw [HE.out]; rfl, rfl⟩
theorem arr_run (a : Addr) (n c : Nat) (h : 8 ≤ n) (W : World) : (Instr.arrayAt 108 (.slice (some a) n c)).run Tryz.prog W = .ok (.pointer (some a)) W := by
  simp [Instr.arrayAt, run_underlying Tryz.underlying108, Nat.not_lt.2 h]
theorem row_at8 {w : World} {A : Option Addr} {B : List Int} (hr : ReadsInt w .u8 A B.length B) {k : Nat} (hk : 8 * k + 8 ≤ B.length) :
    ∃ bb ob, A = some ⟨bb, ob, none⟩ ∧ ∀ j, j < 8 → w.cell? ⟨bb, ob + k * 8 + j, none⟩ = some (.int .u8 (rd B (8 * k + j : Nat))) := by
  obtain ⟨ad, rfl, hx⟩ := hr.2.2 (by omega)
  have h0 := hx 0 (by omega)
  obtain ⟨bb, ob, sp⟩ := ad
  obtain rfl : sp = none := by
    have := spot_none h0
    cases sp with
    | none => rfl
    | some x => simp [Addr.add] at this
  refine ⟨bb, ob, rfl, fun j hj => ?_⟩
  have := hx (8 * k + j) (by omega)
  rw [add_plain] at this
  rw [show ob + k * 8 + j = ob + (8 * k + j) by omega, this]
  rfl
theorem word_list {B : List Int} {k : Nat} (hk : 8 * k + 8 ≤ B.length) : word B k = [rd B (8 * k + 0 : Nat), rd B (8 * k + 1 : Nat), rd B (8 * k + 2 : Nat), rd B (8 * k + 3 : Nat), rd B (8 * k + 4 : Nat), rd B (8 * k + 5 : Nat), rd B (8 * k + 6 : Nat), rd B (8 * k + 7 : Nat)] := by
  apply List.ext_getElem?
  intro i
  rw [word, cut]
  by_cases hi : i < 8
  · rw [List.getElem?_take_of_lt hi, List.getElem?_drop, List.getElem?_eq_getElem (by omega)]
    have hr : ∀ j : Nat, j < B.length → rd B (j : Nat) = B.getD j 0 := fun j _ => by simp [rd]
    rcases (show i = 0 ∨ i = 1 ∨ i = 2 ∨ i = 3 ∨ i = 4 ∨ i = 5 ∨ i = 6 ∨ i = 7 by omega) with rfl | rfl | rfl | rfl | rfl | rfl | rfl | rfl <;> simp only [List.getElem?_cons_zero, List.getElem?_cons_succ] <;> rw [hr _ (by omega), List.getD_eq_getElem?_getD, List.getElem?_eq_getElem (by omega)] <;> rfl
  · rw [List.getElem?_eq_none (by rw [List.length_take]; omega), List.getElem?_eq_none (by simp; omega)]
set_option maxRecDepth 100000 in
theorem at_calls (w : World) (p : Nat) (v : Value) (s f : Nat) (d : Dev) (k : Nat) (h : HasD w p v s f d) (hk : 8 * k + 8 ≤ d.B.length) :
    Calls Tryz.prog 68 #[.pointer (some ⟨p, 0, none⟩), .int .i64 k] w fun e w' => e = .returned (cellV (word d.B k)) ∧ Below w.heap.size w w' := by
  obtain ⟨A, c, rfl, hc, hr⟩ := h.reads
  have c0 := blk_cell h.ptr (i := 0) rfl
  have c1 := cell_alloc c0
  have hm := h.ok.max
  obtain ⟨bb, ob, rfl, hx⟩ := row_at8 hr hk
  have harr := fun W => arr_run ⟨bb, ob + k * 8, none⟩ (d.B.length - k * 8) (c - k * 8) (by omega) W
  have HW := Aside0.mk (word_list hk)
  have x0 : ∀ o, (w.alloc o).cell? ⟨bb, ob + k * 8, none⟩ = some (.int .u8 (rd d.B (8 * k + 0 : Nat))) := cell_alloc (hx 0 (by omega))
  have x1 := cell_alloc (hx 1 (by omega))
  have x2 := cell_alloc (hx 2 (by omega))
  have x3 := cell_alloc (hx 3 (by omega))
  have x4 := cell_alloc (hx 4 (by omega))
  have x5 := cell_alloc (hx 5 (by omega))
  have x6 := cell_alloc (hx 6 (by omega))
  have x7 := cell_alloc (hx 7 (by omega))
  generalize rd d.B (8 * k + 0 : Nat) = y0 at HW x0
  generalize rd d.B (8 * k + 1 : Nat) = y1 at HW x1
  generalize rd d.B (8 * k + 2 : Nat) = y2 at HW x2
  generalize rd d.B (8 * k + 3 : Nat) = y3 at HW x3
  generalize rd d.B (8 * k + 4 : Nat) = y4 at HW x4
  generalize rd d.B (8 * k + 5 : Nat) = y5 at HW x5
  generalize rd d.B (8 * k + 6 : Nat) = y6 at HW x6
  generalize rd d.B (8 * k + 7 : Nat) = y7 at HW x7
  clear h c0 hx hr
  go_enter Tryz.func68, Tryz.ntmps68
  go_wp2
  refine bodyPost_ret (results_cell_row rfl _ _ w.heap.size _ _ _ _ rfl (heap_alloc_new _ _) Tryz.underlying108 rfl (by kernel_rfl)) rfl ?_
  rw [HW.out]
  exact ⟨rfl, below_alloc (Below.refl _ _) _⟩
def EachRes (a long : Nat) (Inv : Nat → World → Prop) (e : Ending) (w' : World) : Prop :=
  e = .returned (.tuple #[]) ∧ ∃ k, a / 8 ≤ k ∧ (0 < long → a + long ≤ 8 * k) ∧ (∀ j, a / 8 ≤ j → j < k → 8 * j < a + long ∧ 0 < long) ∧ Inv k w'
set_option maxRecDepth 100000 in
theorem each_write (q : Nat) (a long : Nat) (Inv : Nat → World → Prop) (w : World) (ha : a + long ≤ 65536) (h0 : Inv (a / 8) w)
    (hstep : ∀ k W, a / 8 ≤ k → 8 * k < a + long → 0 < long → Inv k W → Calls Tryz.prog 67 #[.int .i64 k, .pointer (some ⟨q, 0, none⟩)] W fun e W' => e = .returned (.tuple #[]) ∧ Inv (k + 1) W') :
    Calls Tryz.prog 66 #[.int .i64 a, .int .i64 long, .func (.func 67) #[] #[.pointer (some ⟨q, 0, none⟩)]] w (EachRes a long Inv) := by
  have HS := Aside0.mk hstep
  have H0 := Aside0.mk h0
  clear hstep h0
  go_enter Tryz.func66, Tryz.ntmps66
  go_wp2
  go_loopw [6] (fun i wr => ∃ k : Nat, i = .int .i64 k ∧ a / 8 ≤ k ∧ 8 * k < a + long + 8 ∧ Aside0 (∀ j, a / 8 ≤ j → j < k → 8 * j < a + long ∧ 0 < long) ∧ Aside0 (Inv k wr)) (fun i _ => (a + long + 8 - 8 * intOf i).toNat)
  case atStart => exact ⟨a / 8, by go_num, Nat.le_refl _, by omega, ⟨fun j h1 h2 => by omega⟩, H0⟩
  case round =>
    obtain ⟨k, rfl, hk1, hk2, HJ, HI⟩ := hrel
    by_cases hl : 0 < long
    · by_cases hlt : 8 * k < a + long
      · go_wp2_with (go_at_call 67; (with_reducible refine (HS.out k wr hk1 hlt hl HI.out).mono ?_); rintro e w' ⟨rfl, hi⟩; have HI1 := Aside0.mk hi; clear hi)
        refine ⟨⟨k + 1, by go_num, by omega, by omega, ⟨fun j h1 h2 => ?_⟩, HI1⟩, by simp [intOf]; omega⟩
        by_cases hj : j = k
        · subst hj; exact ⟨hlt, hl⟩
        · exact HJ.out j h1 (by omega)
      · have hlt2 : ¬ (k : Int) * 8 < a + long := by omega
        go_wp2
        go_end0
        exact ⟨rfl, k, hk1, fun _ => by omega, HJ.out, HI.out⟩
    · obtain rfl : long = 0 := by omega
      go_wp2
      go_end0
      exact ⟨rfl, k, hk1, fun h => absurd h (by omega), HJ.out, HI.out⟩
set_option maxRecDepth 100000 in
theorem each_flush (q : Nat) (a long : Nat) (Inv : Nat → World → Prop) (w : World) (ha : a + long ≤ 65536) (h0 : Inv (a / 8) w)
    (hstep : ∀ k W, a / 8 ≤ k → 8 * k < a + long → 0 < long → Inv k W → Calls Tryz.prog 69 #[.int .i64 k, .pointer (some ⟨q, 0, none⟩)] W fun e W' => e = .returned (.tuple #[]) ∧ Inv (k + 1) W') :
    Calls Tryz.prog 66 #[.int .i64 a, .int .i64 long, .func (.func 69) #[] #[.pointer (some ⟨q, 0, none⟩)]] w (EachRes a long Inv) := by
  have HS := Aside0.mk hstep
  have H0 := Aside0.mk h0
  clear hstep h0
  go_enter Tryz.func66, Tryz.ntmps66
  go_wp2
  go_loopw [6] (fun i wr => ∃ k : Nat, i = .int .i64 k ∧ a / 8 ≤ k ∧ 8 * k < a + long + 8 ∧ Aside0 (∀ j, a / 8 ≤ j → j < k → 8 * j < a + long ∧ 0 < long) ∧ Aside0 (Inv k wr)) (fun i _ => (a + long + 8 - 8 * intOf i).toNat)
  case atStart => exact ⟨a / 8, by go_num, Nat.le_refl _, by omega, ⟨fun j h1 h2 => by omega⟩, H0⟩
  case round =>
    obtain ⟨k, rfl, hk1, hk2, HJ, HI⟩ := hrel
    by_cases hl : 0 < long
    · by_cases hlt : 8 * k < a + long
      · go_wp2_with (go_at_call 69; (with_reducible refine (HS.out k wr hk1 hlt hl HI.out).mono ?_); rintro e w' ⟨rfl, hi⟩; have HI1 := Aside0.mk hi; clear hi)
        refine ⟨⟨k + 1, by go_num, by omega, by omega, ⟨fun j h1 h2 => ?_⟩, HI1⟩, by simp [intOf]; omega⟩
        by_cases hj : j = k
        · subst hj; exact ⟨hlt, hl⟩
        · exact HJ.out j h1 (by omega)
      · have hlt2 : ¬ (k : Int) * 8 < a + long := by omega
        go_wp2
        go_end0
        exact ⟨rfl, k, hk1, fun _ => by omega, HJ.out, HI.out⟩
    · obtain rfl : long = 0 := by omega
      go_wp2
      go_end0
      exact ⟨rfl, k, hk1, fun h => absurd h (by omega), HJ.out, HI.out⟩
end Go.Proofs.YtbfogcckbhkciaaGreat.Hand
namespace Go.Proofs.YtbfogcckbhkciaaGreat.Hand
set_option linter.unusedVariables false
set_option linter.unusedSimpArgs false
open Go.RowKit Go.Maps Go.Proofs.YtbfogcckbhkciaaGreatW.PrintWords
theorem Fr.cell {S : Nat → Prop} {w w1 : World} (h : Fr S w w1) {a : Addr} {v : Value} (hc : w.cell? a = some v) (hs : ¬ S a.block) : w1.cell? a = some v := by
  have hb := h.block a.block (World.block_lt_of_cell? _ _ hc) hs
  rw [← hc]
  simp only [World.cell?, hb]
def MapsD (s f b : Nat) : Prop := b = s ∨ b = f
theorem law_int : Keyed Tryz.prog 3 := int_keyed Tryz.underlying3
theorem zero_cell (w : World) : (zeroValue 108).run Tryz.prog w = .ok (.agg #[.int .u8 0, .int .u8 0, .int .u8 0, .int .u8 0, .int .u8 0, .int .u8 0, .int .u8 0, .int .u8 0]) w := by kernel_rfl
theorem key_nat {k : Nat} (h : k < 9223372036854775808) : keyOf Tryz.prog 3 (.int .i64 k) = some (.int .i64 k) := by
  refine keyOf_int_mk Tryz.underlying3 ?_
  simp only [Lit.wf, IntKind.min, IntKind.max, IntKind.signed, IntKind.bits, Bool.and_eq_true]
  simp
  omega
theorem list8 {c : List Int} (h : c.length = 8) : ∃ y0 y1 y2 y3 y4 y5 y6 y7, c = [y0, y1, y2, y3, y4, y5, y6, y7] := by
  match c, h with
  | [a, b, c, d, e, f, g, h], _ => exact ⟨a, b, c, d, e, f, g, h, rfl⟩
def Dev.touch (d : Dev) (k : Nat) : Dev := { B := d.B, S := fun j => if j = k then some ((d.S k).getD (word d.B k)) else d.S j, F := fun j => d.F j && !(j == k) }
theorem word_length {B : List Int} {k : Nat} (h : 8 * k + 8 ≤ B.length) : (word B k).length = 8 := cut_length h
theorem word_bys {B : List Int} (h : Bys B) (k : Nat) : Bys (word B k) := cut_bys h _ _
theorem Dev.Ok.touch {d : Dev} (h : d.Ok) {k : Nat} (hk : 8 * k + 8 ≤ d.B.length) : (d.touch k).Ok := by
  refine ⟨h.len, h.max, h.bys, fun j hj => ?_, fun j c hj => ?_, fun j hj => ?_⟩
  · by_cases e : j = k
    · subst e; exact hk
    · exact h.dom j (by simpa [Dev.touch, e] using hj)
  · by_cases e : j = k
    · subst e
      simp only [Dev.touch, if_true, Option.some.injEq] at hj
      cases hs : d.S j with
      | some c' =>
        rw [hs] at hj
        obtain rfl : c' = c := hj
        exact h.safe j c' hs
      | none =>
        rw [hs] at hj
        obtain rfl : word d.B j = c := hj
        exact ⟨word_length hk, word_bys h.bys j⟩
    · exact h.safe j c (by simpa [Dev.touch, e] using hj)
  · simp only [Dev.touch, Bool.and_eq_true] at hj ⊢
    by_cases e : j = k
    · simp [e] at hj
    · rw [if_neg e]
      exact h.sub j hj.1
theorem sameKey_int (q : IntKind) (a : Int) : (Lit.int q a).sameKey (.int q a) = true := WideAt.sameKey_self trivial
theorem safeF_touch (d : Dev) (k : Nat) (x : Lit) : safeF (d.touch k).S x = updF (safeF d.S) (.int .i64 k) (cellV ((d.S k).getD (word d.B k))) x := by
  by_cases hx : x = .int .i64 k
  · subst hx
    rw [safeF_nat, updF, if_pos (sameKey_int _ _)]
    simp [Dev.touch]
  · rw [updF, if_neg (by rw [sameKey_ne hx]; simp)]
    unfold safeF
    split
    · rename_i a
      split
      · rename_i ha
        have : a.toNat ≠ k := fun e => hx (by rw [← e, Int.toNat_of_nonneg ha])
        simp [Dev.touch, this]
      · rfl
    · rfl
theorem flF_touch (d : Dev) (k : Nat) (x : Lit) : flF (d.touch k).F x = delF (flF d.F) (.int .i64 k) x := by
  by_cases hx : x = .int .i64 k
  · subst hx
    rw [flF_nat, delF, if_pos (sameKey_int _ _)]
    simp [Dev.touch]
  · rw [delF, if_neg (by rw [sameKey_ne hx]; simp)]
    unfold flF
    split
    · rename_i a
      by_cases ha : 0 ≤ a
      · have : a.toNat ≠ k := fun e => hx (by rw [← e, Int.toNat_of_nonneg ha])
        simp [Dev.touch, this]
      · simp [ha]
    · rfl
theorem getD_some8 {S : Nat → Option (List Int)} {k : Nat} {c : List Int} (h : S k = some c) : safeF S (.int .i64 k) = some (cellV c) := by rw [safeF_nat, h]; rfl
theorem getD_none8 {S : Nat → Option (List Int)} {k : Nat} (h : S k = none) : safeF S (.int .i64 k) = none := by rw [safeF_nat, h]; rfl
set_option maxRecDepth 100000 in
theorem w1_yes (p q : Nat) (v : Value) (s f : Nat) (d : Dev) (k : Nat) (c : List Int) (w : World) (h : HasD w p v s f d) (hq : w.cell? ⟨q, 0, none⟩ = some (.pointer (some ⟨p, 0, none⟩))) (hk : 8 * k + 8 ≤ d.B.length) (hc : d.S k = some c) :
    Calls Tryz.prog 67 #[.int .i64 k, .pointer (some ⟨q, 0, none⟩)] w fun e w' => e = .returned (.tuple #[]) ∧ HasD w' p v s f (d.touch k) ∧ Fr (MapsD s f) w w' := by
  have HH := Aside0.mk h
  have c1 := blk_cell h.ptr (i := 1) rfl
  have c2 := blk_cell h.ptr (i := 2) rfl
  have C1 := Aside0.mk (cell_alloc c1)
  have d2 := cell_alloc c2
  have hq2 := cell_alloc hq
  have hm := h.ok.max
  have HKY := Aside0.mk (key_nat (k := k) (by omega))
  obtain ⟨y0, y1, y2, y3, y4, y5, y6, y7, rfl⟩ := list8 (h.ok.safe k c hc).1
  have HM := Aside0.mk h.safe
  have HF := Aside0.mk (h.fl.below (below_alloc (Below.refl w.heap.size w) (.cells #[.int .u8 y0, .int .u8 y1, .int .u8 y2, .int .u8 y3, .int .u8 y4, .int .u8 y5, .int .u8 y6, .int .u8 y7] 108)))
  have HG := Aside0.mk (getD_some8 hc)
  have HC := Aside0.mk hc
  clear h hc c2
  go_enter Tryz.func67, Tryz.ntmps67
  go_wp2_with (first | (at_lookup; refine wpList_look rfl (.tmp 9) (.tmp 10) 100 rfl law_int Tryz.underlying100 (zero_cell _) rfl HM.out (.int .i64 k) (.int .i64 k) rfl HKY.out (some (.agg #[.int .u8 y0, .int .u8 y1, .int .u8 y2, .int .u8 y3, .int .u8 y4, .int .u8 y5, .int .u8 y6, .int .u8 y7])) HG.out ?_) | (at_delete; refine wpList_del rfl (.tmp 27) (.tmp 28) 101 rfl law_int Tryz.underlying101 rfl HF.out (.int .i64 k) (.int .i64 k) rfl HKY.out ?_; intro w2 hm2 ht2))
  go_end0
  refine ⟨rfl, ?_, ?_⟩
  · have hfr : Fr (fun b => b = f) w w2 := ((Fr.refl _ _).alloc _).trans' (ht2.fr rfl)
    have hne : ∀ b, b ≠ f → b < w.heap.size → w2.heap[b]? = w.heap[b]? := fun b hb hl => hfr.block b hl hb
    refine ⟨(hne p (fun e => HH.out.p_own (.inr (.inr e))) HH.out.p_lt).trans HH.out.ptr, R_at HH.out.row (fun b hb => hne b (HH.out.v_ne hb).2 (HH.out.own_lt (.inl hb))), ?_, hm2.congr (fun kl => (flF_touch d k kl).symm), HH.out.ne, HH.out.ok.touch hk⟩
    refine (HH.out.safe.same (hne s HH.out.ne HH.out.safe.lt)).congr (fun kl => ?_)
    rw [safeF_touch, updF]
    split
    · rename_i hkl
      obtain rfl := WideAt.sameKey_eq hkl
      rw [safeF_nat, HC.out]
      rfl
    · rfl
  · exact ((Fr.refl _ _).alloc _).trans' (ht2.fr (.inr rfl))
set_option maxRecDepth 100000 in
theorem w1_no (p q : Nat) (v : Value) (s f : Nat) (d : Dev) (k : Nat) (w : World) (h : HasD w p v s f d) (hq : w.cell? ⟨q, 0, none⟩ = some (.pointer (some ⟨p, 0, none⟩))) (hqo : ¬ OwnD v s f q) (hk : 8 * k + 8 ≤ d.B.length) (hc : d.S k = none) :
    Calls Tryz.prog 67 #[.int .i64 k, .pointer (some ⟨q, 0, none⟩)] w fun e w' => e = .returned (.tuple #[]) ∧ HasD w' p v s f (d.touch k) ∧ Fr (MapsD s f) w w' := by
  have HH := Aside0.mk h
  have HQ := Aside0.mk hq
  have c1 := blk_cell h.ptr (i := 1) rfl
  have d1 := cell_alloc c1
  have hq2 := cell_alloc hq
  have hm := h.ok.max
  have HKY := Aside0.mk (key_nat (k := k) (by omega))
  have HM := Aside0.mk h.safe
  have HG := Aside0.mk (getD_none8 hc)
  have HC := Aside0.mk hc
  clear h hc
  go_enter Tryz.func67, Tryz.ntmps67
  go_wp2_with (at_lookup; refine wpList_look rfl (.tmp 9) (.tmp 10) 100 rfl law_int Tryz.underlying100 (zero_cell _) rfl HM.out (.int .i64 k) (.int .i64 k) rfl HKY.out none HG.out ?_)
  obtain ⟨wb, hwb⟩ : ∃ wb, wb = w.alloc (Obj.cells #[.int .u8 0, .int .u8 0, .int .u8 0, .int .u8 0, .int .u8 0, .int .u8 0, .int .u8 0, .int .u8 0] 108) := ⟨_, rfl⟩
  have HBb := Aside0.mk (show Below w.heap.size w wb by rw [hwb]; exact below_alloc (Below.refl _ _) _)
  have HSb := Aside0.mk (HH.out.move HBb.out)
  have b0 : wb.cell? ⟨q, 0, none⟩ = some (.pointer (some ⟨p, 0, none⟩)) := by rw [hwb]; exact hq2 _
  have b1 : wb.cell? ⟨p, 1, none⟩ = some (.map (some s)) := by rw [hwb]; exact d1 _
  rw [← hwb]
  have HBd := Aside0.mk HBb.out.drew
  have HSd := Aside0.mk (HSb.out.move (Below.refl _ _).drew)
  have b0d : wb.drew.cell? ⟨q, 0, none⟩ = some (.pointer (some ⟨p, 0, none⟩)) := b0
  have b1d : wb.drew.cell? ⟨p, 1, none⟩ = some (.map (some s)) := b1
  clear hwb d1 hq2 c1 hq
  go_region_held (fun w' => w'.cell? ⟨q, 0, none⟩ = some (.pointer (some ⟨p, 0, none⟩)) ∧ w'.cell? ⟨p, 1, none⟩ = some (.map (some s))) (go_keep) (first | (go_at_call 68; (with_reducible refine (at_calls wb.drew p v s f d k HSd.out hk).mono ?_); rintro e w2 ⟨rfl, hb2⟩; have HS2 := Aside0.mk (HSd.out.move hb2); have HB2 := Aside0.mk (bel_step HBd.out hb2); have g0 := (hb2.cell (World.block_lt_of_cell? _ _ b0d)).trans b0d; have g1 := (hb2.cell (World.block_lt_of_cell? _ _ b1d)).trans b1d; obtain ⟨w3, hr3, hm3, ht3⟩ := HS2.out.safe.upd law_int Tryz.underlying100 HS2.out.ok.roomS (by decide) (val := cellV (word d.B k)) HKY.out; have HM3 := Aside0.mk hm3; have HT3 := Aside0.mk ht3; have i0 := (ht3.fr (S := fun b => b = s) rfl).cell g0 (fun e => hqo (.inr (.inl e))); have i1 := (ht3.fr (S := fun b => b = s) rfl).cell g1 (fun e => HH.out.p_own (.inr (.inl e))); clear hb2 hm3 ht3))
  have HF3 := Aside0.mk (HS2.out.fl.fr (HT3.out.fr (S := fun b => b = s) rfl) (fun e => HH.out.ne e.symm))
  have i2 := (HT3.out.fr (S := fun b => b = s) rfl).cell (blk_cell HS2.out.ptr (i := 2) rfl) (fun e => HH.out.p_own (.inr (.inl e)))
  clear hr3
  go_wp2_with (at_delete; refine wpList_del rfl (.tmp 27) (.tmp 28) 101 rfl law_int Tryz.underlying101 rfl HF3.out (.int .i64 k) (.int .i64 k) rfl HKY.out ?_; intro w4 hm4 ht4)
  go_end0
  have hfr : Fr (fun b => b = s ∨ b = f) w2 w4 := (HT3.out.fr (S := fun b => b = s ∨ b = f) (.inl rfl)).trans' (ht4.fr (.inr rfl))
  have hS := HS2.out
  refine ⟨rfl, ?_, ((Fr.of_below HB2.out _).trans' (hfr.mono (fun b hb => ?_)))⟩
  · refine ⟨(hfr.block p hS.p_lt (fun e => hS.p_own (.inr e))).trans hS.ptr, R_at hS.row (fun b hb => hfr.block b (hS.own_lt (.inl hb)) (fun e => by rcases e with e | e; exact (hS.v_ne hb).1 e; exact (hS.v_ne hb).2 e)), ?_, hm4.congr (fun kl => (flF_touch d k kl).symm), hS.ne, hS.ok.touch hk⟩
    refine (HM3.out.fr (ht4.fr (S := fun b => b = f) rfl) hS.ne).congr (fun kl => ?_)
    rw [safeF_touch, HC.out]
    rfl
  · exact hb
theorem w1_calls (p q : Nat) (v : Value) (s f : Nat) (d : Dev) (k : Nat) (w : World) (h : HasD w p v s f d) (hq : w.cell? ⟨q, 0, none⟩ = some (.pointer (some ⟨p, 0, none⟩))) (hqo : ¬ OwnD v s f q) (hk : 8 * k + 8 ≤ d.B.length) :
    Calls Tryz.prog 67 #[.int .i64 k, .pointer (some ⟨q, 0, none⟩)] w fun e w' => e = .returned (.tuple #[]) ∧ HasD w' p v s f (d.touch k) ∧ Fr (MapsD s f) w w' := by
  cases hc : d.S k with
  | some c => exact w1_yes p q v s f d k c w h hq hk hc
  | none => exact w1_no p q v s f d k w h hq hqo hk hc
def Dev.mark (d : Dev) (k : Nat) : Dev := { d with F := fun j => d.F j || (j == k && (d.S k).isSome) }
theorem Dev.Ok.mark {d : Dev} (h : d.Ok) (k : Nat) : (d.mark k).Ok := by
  refine ⟨h.len, h.max, h.bys, h.dom, h.safe, fun j hj => ?_⟩
  simp only [Dev.mark, Bool.or_eq_true, Bool.and_eq_true, beq_iff_eq] at hj ⊢
  rcases hj with hj | ⟨rfl, hj⟩
  · exact h.sub j hj
  · exact hj
theorem flF_mark (d : Dev) (k : Nat) (hs : (d.S k).isSome = true) (x : Lit) : flF (d.mark k).F x = updF (flF d.F) (.int .i64 k) (.int .i64 1) x := by
  by_cases hx : x = .int .i64 k
  · subst hx
    rw [flF_nat, updF, if_pos (sameKey_int _ _)]
    simp [Dev.mark, hs]
  · rw [updF, if_neg (by rw [sameKey_ne hx]; simp)]
    unfold flF
    split
    · rename_i a
      by_cases ha : 0 ≤ a
      · have : a.toNat ≠ k := fun e => hx (by rw [← e, Int.toNat_of_nonneg ha])
        simp [Dev.mark, this]
      · simp [ha]
    · rfl
set_option maxRecDepth 100000 in
theorem f1_no (p q : Nat) (v : Value) (s f : Nat) (d : Dev) (k : Nat) (w : World) (h : HasD w p v s f d) (hq : w.cell? ⟨q, 0, none⟩ = some (.pointer (some ⟨p, 0, none⟩))) (hk : 8 * k + 8 ≤ d.B.length) (hc : d.S k = none) :
    Calls Tryz.prog 69 #[.int .i64 k, .pointer (some ⟨q, 0, none⟩)] w fun e w' => e = .returned (.tuple #[]) ∧ HasD w' p v s f (d.mark k) ∧ Fr (MapsD s f) w w' := by
  have HH := Aside0.mk h
  have c1 := blk_cell h.ptr (i := 1) rfl
  have hm := h.ok.max
  have HKY := Aside0.mk (key_nat (k := k) (by omega))
  have HM := Aside0.mk h.safe
  have HG := Aside0.mk (getD_none8 hc)
  have HE := Aside0.mk (show d.mark k = d by
    have : (fun j => d.F j || (j == k && (d.S k).isSome)) = d.F := by funext j; rw [hc]; simp
    rw [Dev.mark, this])
  clear h hc
  go_enter Tryz.func69, Tryz.ntmps69
  go_wp2_with (at_lookup; refine wpList_look rfl (.tmp 9) (.tmp 10) 100 rfl law_int Tryz.underlying100 (zero_cell _) rfl HM.out (.int .i64 k) (.int .i64 k) rfl HKY.out none HG.out ?_)
  go_end0
  rw [HE.out]
  exact ⟨rfl, HH.out.move (below_alloc (Below.refl _ _) _), (Fr.refl _ _).alloc _⟩
set_option maxRecDepth 100000 in
theorem f1_yes (p q : Nat) (v : Value) (s f : Nat) (d : Dev) (k : Nat) (c : List Int) (w : World) (h : HasD w p v s f d) (hq : w.cell? ⟨q, 0, none⟩ = some (.pointer (some ⟨p, 0, none⟩))) (hk : 8 * k + 8 ≤ d.B.length) (hc : d.S k = some c) :
    Calls Tryz.prog 69 #[.int .i64 k, .pointer (some ⟨q, 0, none⟩)] w fun e w' => e = .returned (.tuple #[]) ∧ HasD w' p v s f (d.mark k) ∧ Fr (MapsD s f) w w' := by
  have HH := Aside0.mk h
  have c1 := blk_cell h.ptr (i := 1) rfl
  have c2 := blk_cell h.ptr (i := 2) rfl
  have d2 := cell_alloc c2
  have hq2 := cell_alloc hq
  have hm := h.ok.max
  have HKY := Aside0.mk (key_nat (k := k) (by omega))
  obtain ⟨y0, y1, y2, y3, y4, y5, y6, y7, rfl⟩ := list8 (h.ok.safe k c hc).1
  have HM := Aside0.mk h.safe
  have HF := Aside0.mk (h.fl.below (below_alloc (Below.refl w.heap.size w) (.cells #[.int .u8 y0, .int .u8 y1, .int .u8 y2, .int .u8 y3, .int .u8 y4, .int .u8 y5, .int .u8 y6, .int .u8 y7] 108)))
  have HG := Aside0.mk (getD_some8 hc)
  have HC := Aside0.mk hc
  clear h hc c2
  go_enter Tryz.func69, Tryz.ntmps69
  go_wp2_with (first | (at_lookup; refine wpList_look rfl (.tmp 9) (.tmp 10) 100 rfl law_int Tryz.underlying100 (zero_cell _) rfl HM.out (.int .i64 k) (.int .i64 k) rfl HKY.out (some (.agg #[.int .u8 y0, .int .u8 y1, .int .u8 y2, .int .u8 y3, .int .u8 y4, .int .u8 y5, .int .u8 y6, .int .u8 y7])) HG.out ?_) | (at_mapUpdate; refine wpList_upd rfl (.tmp 18) (.tmp 19) (.const (.int .i64 1)) 101 rfl law_int Tryz.underlying101 8192 (by decide) rfl HF.out HH.out.ok.roomF (.int .i64 k) (.int .i64 1) (.int .i64 k) rfl rfl HKY.out ?_; intro w2 hm2 ht2))
  go_end0
  have hfr : Fr (fun b => b = f) w w2 := ((Fr.refl _ _).alloc _).trans' (ht2.fr rfl)
  have hne : ∀ b, b ≠ f → b < w.heap.size → w2.heap[b]? = w.heap[b]? := fun b hb hl => hfr.block b hl hb
  refine ⟨rfl, ?_, hfr.mono (fun b hb => .inr hb)⟩
  exact ⟨(hne p (fun e => HH.out.p_own (.inr (.inr e))) HH.out.p_lt).trans HH.out.ptr, R_at HH.out.row (fun b hb => hne b (HH.out.v_ne hb).2 (HH.out.own_lt (.inl hb))), HH.out.safe.same (hne s HH.out.ne HH.out.safe.lt), hm2.congr (fun kl => (flF_mark d k (by rw [HC.out]; rfl) kl).symm), HH.out.ne, HH.out.ok.mark k⟩
theorem f1_calls (p q : Nat) (v : Value) (s f : Nat) (d : Dev) (k : Nat) (w : World) (h : HasD w p v s f d) (hq : w.cell? ⟨q, 0, none⟩ = some (.pointer (some ⟨p, 0, none⟩))) (hk : 8 * k + 8 ≤ d.B.length) :
    Calls Tryz.prog 69 #[.int .i64 k, .pointer (some ⟨q, 0, none⟩)] w fun e w' => e = .returned (.tuple #[]) ∧ HasD w' p v s f (d.mark k) ∧ Fr (MapsD s f) w w' := by
  cases hc : d.S k with
  | some c => exact f1_yes p q v s f d k c w h hq hk hc
  | none => exact f1_no p q v s f d k w h hq hk hc
end Go.Proofs.YtbfogcckbhkciaaGreat.Hand
namespace Go.Proofs.YtbfogcckbhkciaaGreat.Hand
set_option linter.unusedVariables false
set_option linter.unusedSimpArgs false
open Go.RowKit Go.Maps Go.Proofs.YtbfogcckbhkciaaGreatW.PrintWords
set_option linter.unusedVariables false
def Dev.touchTo (d : Dev) (a K : Nat) : Dev := { B := d.B, S := fun j => if a ≤ j ∧ j < K then some ((d.S j).getD (word d.B j)) else d.S j, F := fun j => d.F j && !decide (a ≤ j ∧ j < K) }
theorem Dev.touchTo_start (d : Dev) (a : Nat) : d.touchTo a a = d := by
  obtain ⟨B, S, F⟩ := d
  simp only [Dev.touchTo]
  congr 1
  · funext j; rw [if_neg (by omega)]
  · funext j; rw [decide_eq_false (by omega)]; simp
theorem Dev.touchTo_step (d : Dev) {a K : Nat} (h : a ≤ K) : (d.touchTo a K).touch K = d.touchTo a (K + 1) := by
  obtain ⟨B, S, F⟩ := d
  simp only [Dev.touchTo, Dev.touch]
  congr 1
  · funext j
    by_cases hj : j = K
    · subst hj
      rw [if_pos rfl, if_neg (by omega), if_pos (by omega)]
    · rw [if_neg hj]
      by_cases hjk : a ≤ j ∧ j < K
      · rw [if_pos hjk, if_pos (by omega)]
      · rw [if_neg hjk, if_neg (by omega)]
  · funext j
    by_cases hj : j = K
    · subst hj
      rw [decide_eq_true (show a ≤ j ∧ j < j + 1 by omega)]
      simp
    · have : (j == K) = false := by simp [hj]
      rw [this]
      by_cases hjk : a ≤ j ∧ j < K
      · rw [decide_eq_true hjk, decide_eq_true (show a ≤ j ∧ j < K + 1 by omega)]; simp
      · rw [decide_eq_false hjk, decide_eq_false (show ¬ (a ≤ j ∧ j < K + 1) by omega)]; simp
def Dev.markTo (d : Dev) (a K : Nat) : Dev := { d with F := fun j => d.F j || (decide (a ≤ j ∧ j < K) && (d.S j).isSome) }
theorem Dev.markTo_start (d : Dev) (a : Nat) : d.markTo a a = d := by
  obtain ⟨B, S, F⟩ := d
  simp only [Dev.markTo]
  congr 1
  funext j; rw [decide_eq_false (by omega)]; simp
theorem Dev.markTo_step (d : Dev) {a K : Nat} (h : a ≤ K) : (d.markTo a K).mark K = d.markTo a (K + 1) := by
  obtain ⟨B, S, F⟩ := d
  simp only [Dev.markTo, Dev.mark]
  congr 1
  funext j
  by_cases hj : j = K
  · subst hj
    rw [decide_eq_false (show ¬ (a ≤ j ∧ j < j) by omega), decide_eq_true (show a ≤ j ∧ j < j + 1 by omega)]
    simp
  · have : (j == K) = false := by simp [hj]
    rw [this]
    by_cases hjk : a ≤ j ∧ j < K
    · rw [decide_eq_true hjk, decide_eq_true (show a ≤ j ∧ j < K + 1 by omega)]; simp
    · rw [decide_eq_false hjk, decide_eq_false (show ¬ (a ≤ j ∧ j < K + 1) by omega)]; simp
def hitB (a long j : Nat) : Bool := decide (a / 8 ≤ j ∧ 8 * j < a + long ∧ 0 < long)
def Dev.write (d : Dev) (a : Nat) (l : List Int) : Dev :=
  { B := d.B.take a ++ (l ++ d.B.drop (a + l.length)), S := fun j => if hitB a l.length j then some ((d.S j).getD (word d.B j)) else d.S j, F := fun j => d.F j && !hitB a l.length j }
def Dev.flush (d : Dev) (a long : Nat) : Dev := { d with F := fun j => d.F j || (hitB a long j && (d.S j).isSome) }
theorem hit_each {a long k : Nat} (h1 : 0 < long → a + long ≤ 8 * k) (h2 : ∀ j, a / 8 ≤ j → j < k → 8 * j < a + long ∧ 0 < long) (j : Nat) : decide (a / 8 ≤ j ∧ j < k) = hitB a long j := by
  rw [hitB]
  refine decide_eq_decide.2 ⟨fun h => ⟨h.1, h2 j h.1 h.2⟩, fun h => ⟨h.1, ?_⟩⟩
  have := h1 h.2.2
  omega
theorem touchTo_hit (d : Dev) {a long k : Nat} (h1 : 0 < long → a + long ≤ 8 * k) (h2 : ∀ j, a / 8 ≤ j → j < k → 8 * j < a + long ∧ 0 < long) :
    d.touchTo (a / 8) k = { B := d.B, S := fun j => if hitB a long j then some ((d.S j).getD (word d.B j)) else d.S j, F := fun j => d.F j && !hitB a long j } := by
  simp only [Dev.touchTo]
  congr 1
  · funext j
    rw [← hit_each h1 h2 j]
    by_cases h : a / 8 ≤ j ∧ j < k
    · rw [if_pos h, if_pos (by simp [h])]
    · rw [if_neg h, if_neg (by simp only [decide_eq_true_eq]; exact h)]
  · funext j
    rw [hit_each h1 h2 j]
theorem markTo_hit (d : Dev) {a long k : Nat} (h1 : 0 < long → a + long ≤ 8 * k) (h2 : ∀ j, a / 8 ≤ j → j < k → 8 * j < a + long ∧ 0 < long) : d.markTo (a / 8) k = d.flush a long := by
  simp only [Dev.markTo, Dev.flush]
  congr 1
  funext j
  rw [hit_each h1 h2 j]
theorem splice_length {B l : List Int} {a : Nat} (h : a + l.length ≤ B.length) : (B.take a ++ (l ++ B.drop (a + l.length))).length = B.length := by
  simp only [List.length_append, List.length_take, List.length_drop]
  omega
theorem splice_bys {B l : List Int} {a : Nat} (hB : Bys B) (hl : Bys l) : Bys (B.take a ++ (l ++ B.drop (a + l.length))) := by
  intro x hx
  rcases List.mem_append.1 hx with hx | hx
  · exact hB x (List.mem_of_mem_take hx)
  · rcases List.mem_append.1 hx with hx | hx
    · exact hl x hx
    · exact hB x (List.mem_of_mem_drop hx)
theorem Dev.Ok.setB {d : Dev} (h : d.Ok) {B : List Int} (hl : B.length = d.B.length) (hb : Bys B) : Dev.Ok { d with B := B } :=
  ⟨by rw [show ({ d with B := B } : Dev).B = B from rfl, hl]; exact h.len, by rw [show ({ d with B := B } : Dev).B = B from rfl, hl]; exact h.max, hb, fun k hk => by rw [show ({ d with B := B } : Dev).B = B from rfl, hl]; exact h.dom k hk, h.safe, h.sub⟩
theorem MapsD.own {s f b : Nat} {v : Value} (h : MapsD s f b) : OwnD v s f b := .inr h
theorem ins_ok {n : Nat} {a long : Int} (h : insE n a long = 0) : 0 ≤ long ∧ 0 ≤ a ∧ a + long ≤ n := by
  unfold insE at h
  split at h
  · cases h
  · split at h
    · cases h
    · omega
theorem HasD.cell_off {w : World} {p : Nat} {v : Value} {s f : Nat} {d : Dev} (h : HasD w p v s f d) {a : Addr} {u : Value} (hc : w.cell? a = some u) : ¬ MapsD s f a.block := by
  obtain ⟨e1, c1, h1⟩ := h.safe.blk
  obtain ⟨e2, c2, h2⟩ := h.fl.blk
  rintro (e | e)
  · simp [World.cell?, e, h1] at hc
  · simp [World.cell?, e, h2] at hc
theorem reads_fr {S : Nat → Prop} {w w1 : World} {A : Option Addr} {n : Nat} {l : List Int} (hr : ReadsInt w .u8 A n l) (hf : Fr S w w1) (hs : ∀ a u, w.cell? a = some u → ¬ S a.block) : ReadsInt w1 .u8 A n l :=
  ⟨hr.1, hr.2.1, fun h0 => by
    obtain ⟨ad, e, hx⟩ := hr.2.2 h0
    exact ⟨ad, e, fun j hj => hf.cell (hx j hj) (hs _ _ (hx j hj))⟩⟩
theorem write_bad (w : World) (p : Nat) (v : Value) (s f : Nat) (d : Dev) (a : Int) (A : Option Addr) (n c : Nat) (h : HasD w p v s f d) (hn : n ≤ 9223372036854775807) (he : insE d.B.length a n ≠ 0) :
    Calls Tryz.prog 45 #[.pointer (some ⟨p, 0, none⟩), .int .i64 a, .slice A n c] w fun e w' => e = .returned (.int .i64 (insE d.B.length a n)) ∧ Below w.heap.size w w' := by
  have HH := Aside0.mk h
  obtain ⟨er, her⟩ : ∃ er, er = insE d.B.length a n := ⟨_, rfl⟩
  have HE := Aside0.mk her.symm
  have hne : (er != 0) = true := by rw [her]; simpa using he
  clear h he her
  go_enter Tryz.func45, Tryz.ntmps45
  go_wp2_with (go_at_call 53; (with_reducible refine (ins_calls _ p v s f d a n (HH.out.move (below_alloc (Below.refl _ _) _))).mono ?_); rw [HE.out]; rintro e w2 ⟨rfl, rfl⟩)
  go_ret
  rw [HE.out]
  exact ⟨rfl, below_alloc (Below.refl _ _) _⟩
def Dev.hitW (d : Dev) (a n : Nat) : Dev := { B := d.B, S := fun j => if hitB a n j then some ((d.S j).getD (word d.B j)) else d.S j, F := fun j => d.F j && !hitB a n j }
theorem each_touch (w : World) (p q : Nat) (v : Value) (s f : Nat) (d : Dev) (a n : Nat) (h : HasD w p v s f d) (hq : w.cell? ⟨q, 0, none⟩ = some (.pointer (some ⟨p, 0, none⟩))) (hqo : ¬ OwnD v s f q) (hin : a + n ≤ d.B.length) :
    Calls Tryz.prog 66 #[.int .i64 a, .int .i64 n, .func (.func 67) #[] #[.pointer (some ⟨q, 0, none⟩)]] w fun e w' => e = .returned (.tuple #[]) ∧ HasD w' p v s f (d.hitW a n) ∧ Fr (MapsD s f) w w' := by
  have hm := h.ok.max
  have hl8 := h.ok.len
  refine (each_write q a n (fun K W => HasD W p v s f (d.touchTo (a / 8) K) ∧ W.cell? ⟨q, 0, none⟩ = some (.pointer (some ⟨p, 0, none⟩)) ∧ Fr (MapsD s f) w W) w (by omega) ⟨by rw [Dev.touchTo_start]; exact h, hq, Fr.refl _ _⟩ ?_).mono ?_
  · intro k W h1 h2 h3 hI
    refine (w1_calls p q v s f (d.touchTo (a / 8) k) k W hI.1 hI.2.1 hqo (show 8 * k + 8 ≤ d.B.length by omega)).mono fun e W' hW => ⟨hW.1, by rw [← Dev.touchTo_step d h1]; exact hW.2.1, hW.2.2.cell hI.2.1 (fun e => hqo (.inr e)), hI.2.2.trans' hW.2.2⟩
  · rintro e w2 ⟨rfl, K, hK1, hK2, hK3, hS2, hq2, hf2⟩
    rw [touchTo_hit d hK2 hK3] at hS2
    exact ⟨rfl, hS2, hf2⟩
theorem each_mark (w : World) (p q : Nat) (v : Value) (s f : Nat) (d : Dev) (a n : Nat) (h : HasD w p v s f d) (hq : w.cell? ⟨q, 0, none⟩ = some (.pointer (some ⟨p, 0, none⟩))) (hqo : ¬ OwnD v s f q) (hin : a + n ≤ d.B.length) :
    Calls Tryz.prog 66 #[.int .i64 a, .int .i64 n, .func (.func 69) #[] #[.pointer (some ⟨q, 0, none⟩)]] w fun e w' => e = .returned (.tuple #[]) ∧ HasD w' p v s f (d.flush a n) ∧ Fr (MapsD s f) w w' := by
  have hm := h.ok.max
  have hl8 := h.ok.len
  refine (each_flush q a n (fun K W => HasD W p v s f (d.markTo (a / 8) K) ∧ W.cell? ⟨q, 0, none⟩ = some (.pointer (some ⟨p, 0, none⟩)) ∧ Fr (MapsD s f) w W) w (by omega) ⟨by rw [Dev.markTo_start]; exact h, hq, Fr.refl _ _⟩ ?_).mono ?_
  · intro k W h1 h2 h3 hI
    refine (f1_calls p q v s f (d.markTo (a / 8) k) k W hI.1 hI.2.1 (show 8 * k + 8 ≤ d.B.length by omega)).mono fun e W' hW => ⟨hW.1, by rw [← Dev.markTo_step d h1]; exact hW.2.1, hW.2.2.cell hI.2.1 (fun e => hqo (.inr e)), hI.2.2.trans' hW.2.2⟩
  · rintro e w2 ⟨rfl, K, hK1, hK2, hK3, hS2, hq2, hf2⟩
    rw [markTo_hit d hK2 hK3] at hS2
    exact ⟨rfl, hS2, hf2⟩
theorem not_own {w : World} {p : Nat} {v : Value} {s f : Nat} {d : Dev} (h : HasD w p v s f d) {b : Nat} (hb : w.heap.size ≤ b) : ¬ OwnD v s f b := fun e => absurd (h.own_lt e) (Nat.not_lt.2 hb)
set_option maxRecDepth 100000 in
theorem write_good (w : World) (p : Nat) (v : Value) (s f : Nat) (d : Dev) (a : Nat) (A : Option Addr) (n c : Nat) (l : List Int) (hn : l.length = n) (h : HasD w p v s f d) (hr : ReadsInt w .u8 A n l) (hb : Bys l) (he : insE d.B.length a n = 0) :
    Calls Tryz.prog 45 #[.pointer (some ⟨p, 0, none⟩), .int .i64 a, .slice A n c] w fun e w' => e = .returned (.int .i64 0) ∧ HasD w' p v s f (d.write a l) ∧ Fr (OwnD v s f) w w' := by
  have HH := Aside0.mk h
  have HE := Aside0.mk he
  have HN := Aside0.mk hn
  obtain ⟨_, _, hin⟩ := ins_ok he
  have hm := h.ok.max
  obtain ⟨B0, c0, hv, hc0, hr0⟩ := h.reads
  subst hv
  have HSw := Aside0.mk (h.move (below_alloc (Below.refl _ _) (.cells #[.pointer (some ⟨p, 0, none⟩)] 29)))
  have HQ := Aside0.mk (show (w.alloc (.cells #[.pointer (some ⟨p, 0, none⟩)] 29)).cell? ⟨w.heap.size, 0, none⟩ = some (.pointer (some ⟨p, 0, none⟩)) from blk_cell (heap_alloc_new _ _) (i := 0) rfl)
  have HR := Aside0.mk hr
  have HBY := Aside0.mk hb
  by_cases h0 : 0 < n
  · obtain ⟨g, cap, hvg, hg1, hg2, hcap, hcap2⟩ := own_slice_form h.row (by omega)
    simp only [Value.slice.injEq] at hvg
    obtain ⟨rfl, _, rfl⟩ := hvg
    clear h he hr hb hn hr0
    go_enter Tryz.func45, Tryz.ntmps45
    go_wp2_with (first | (go_at_call 53; (with_reducible refine (ins_calls _ p _ s f d a n (HH.out.move (below_alloc (Below.refl _ _) _))).mono ?_); rw [HE.out]; rintro e w1 ⟨rfl, rfl⟩) | (go_at_call 66; (with_reducible refine (each_touch _ p w.heap.size _ s f d a n HSw.out HQ.out (not_own HH.out (Nat.le_refl _)) (by omega)).mono ?_); rintro e w2 ⟨rfl, hS2, hf2⟩; have HS2 := Aside0.mk hS2; have HF2 := Aside0.mk hf2; have p0 := blk_cell hS2.ptr (i := 0) rfl; have q2 := hf2.cell HQ.out (fun e => not_own HH.out (Nat.le_refl _) (.inr e)); clear hS2 hf2) | ((with_reducible refine gate_bi (b := .copy) (xs := #[.tmp 26, .tmp 27]) rfl ?_); go_must (refine wpList_copy_at (enc := Value.int .u8) (h1 := fun _ => rfl) (0 : Int) rfl (.tmp 26) (.tmp 27) 22 22 5 rfl Tryz.underlying22 (by kernel_rfl) g c0 a (some ⟨g, a, none⟩) (d.B.length - a) (c0 - a) d.B l A n c 0 (fun k => k ≠ p) rfl rfl (show Kd.R (Kd.int .u8) 5 w2 0 (fun k => k ≠ p) (.slice (some ⟨g, 0, none⟩) d.B.length c0) d.B from HS2.out.row) (Kd.C_of_reads (d := (0 : Int)) (h1 := fun _ => rfl) (reads_fr (HR.out.below (below_alloc (Below.refl _ _) _)) HF2.out (fun x u hx => HSw.out.cell_off hx))) (by omega) (by omega) (fun _ => rfl) ?_); intro w3 hr3 hg3))
    go_ret
    have hfr : Fr (OwnD (.slice (some ⟨g, 0, none⟩) d.B.length c0) s f) w2 w3 := (Fr.refl _ _).grown hg3 (fun k hk => .inl (.inl hk.symm))
    refine ⟨rfl, ?_, (((Fr.refl _ _).alloc _).trans' (HF2.out.mono (fun b hb => hb.own))).trans' hfr⟩
    have hS := HS2.out
    have hne : ∀ b, b ≠ g → b < w2.heap.size → w3.heap[b]? = w2.heap[b]? := fun b hb hl => hg3.block b hl (fun e => hb (Option.some.inj e))
    have hgs := hS.v_ne (b := g) rfl
    have hln : (d.B.take a ++ (l ++ d.B.drop (a + n))).length = d.B.length := by rw [← HN.out]; exact splice_length (by rw [HN.out]; omega)
    have e : d.write a l = { d.hitW a n with B := d.B.take a ++ (l ++ d.B.drop (a + n)) } := by rw [Dev.write, Dev.hitW, HN.out]
    rw [e]
    exact ⟨(hne p (fun e => hg2 e.symm) hS.p_lt).trans hS.ptr, hr3, hS.safe.same (hne s hgs.1.symm hS.safe.lt), hS.fl.same (hne f hgs.2.symm hS.fl.lt), hS.ne, hS.ok.setB hln (by rw [← HN.out]; exact splice_bys HH.out.ok.bys HBY.out)⟩
  · obtain ⟨D, hdr, hdq⟩ := drop_run B0 c0 d.B a (by omega) hc0
    have HN0 := Aside0.mk (show n = 0 by omega)
    clear h he hr0 hr hb hn h0 hdq
    go_enter Tryz.func45, Tryz.ntmps45
    go_wp2_with (first | (go_at_call 53; (with_reducible refine (ins_calls _ p _ s f d a n (HH.out.move (below_alloc (Below.refl _ _) _))).mono ?_); rw [HE.out]; rintro e w1 ⟨rfl, rfl⟩) | (go_at_call 66; (with_reducible refine (each_touch _ p w.heap.size _ s f d a n HSw.out HQ.out (not_own HH.out (Nat.le_refl _)) (by omega)).mono ?_); rintro e w2 ⟨rfl, hS2, hf2⟩; have HS2 := Aside0.mk hS2; have HF2 := Aside0.mk hf2; have p0 := blk_cell hS2.ptr (i := 0) rfl; have q2 := hf2.cell HQ.out (fun e => not_own HH.out (Nat.le_refl _) (.inr e)); clear hS2 hf2) | ((with_reducible refine gate_bi (b := .copy) (xs := #[.tmp 26, .tmp 27]) rfl ?_); refine wpList_copy_nothing rfl (.tmp 26) (.tmp 27) 22 22 rfl 5 Tryz.underlying22 (by kernel_rfl) D A (d.B.length - a) (c0 - a) n c rfl rfl (by rw [HN0.out]; exact Nat.zero_min _) ?_))
    go_ret
    obtain rfl : n = 0 := HN0.out
    obtain rfl : l = [] := List.eq_nil_of_length_eq_zero HN.out
    refine ⟨rfl, ?_, ((Fr.refl _ _).alloc _).trans' (HF2.out.mono (fun b hb => hb.own))⟩
    have e : d.write a [] = d.hitW a 0 := by
      simp only [Dev.write, Dev.hitW, List.length_nil, List.nil_append, Nat.add_zero, List.take_append_drop]
    rw [e]
    exact HS2.out
theorem flush_calls (w : World) (p : Nat) (v : Value) (s f : Nat) (d : Dev) (a n : Nat) (h : HasD w p v s f d) (he : insE d.B.length a n = 0) :
    Calls Tryz.prog 46 #[.pointer (some ⟨p, 0, none⟩), .int .i64 a, .int .i64 n] w fun e w' => e = .returned (.int .i64 0) ∧ HasD w' p v s f (d.flush a n) ∧ Fr (OwnD v s f) w w' := by
  have HH := Aside0.mk h
  have HE := Aside0.mk he
  obtain ⟨_, _, hin⟩ := ins_ok he
  have hm := h.ok.max
  have HSw := Aside0.mk (h.move (below_alloc (Below.refl _ _) (.cells #[.pointer (some ⟨p, 0, none⟩)] 29)))
  have HQ := Aside0.mk (show (w.alloc (.cells #[.pointer (some ⟨p, 0, none⟩)] 29)).cell? ⟨w.heap.size, 0, none⟩ = some (.pointer (some ⟨p, 0, none⟩)) from blk_cell (heap_alloc_new _ _) (i := 0) rfl)
  clear h he
  go_enter Tryz.func46, Tryz.ntmps46
  go_wp2_with (first | (go_at_call 53; (with_reducible refine (ins_calls _ p _ s f d a n (HH.out.move (below_alloc (Below.refl _ _) _))).mono ?_); rw [HE.out]; rintro e w1 ⟨rfl, rfl⟩) | (go_at_call 66; (with_reducible refine (each_mark _ p w.heap.size _ s f d a n HSw.out HQ.out (not_own HH.out (Nat.le_refl _)) (by omega)).mono ?_); rintro e w2 ⟨rfl, hS2, hf2⟩; have HS2 := Aside0.mk hS2; have HF2 := Aside0.mk hf2; clear hS2 hf2))
  go_ret
  exact ⟨rfl, HS2.out, ((Fr.refl _ _).alloc _).trans' (HF2.out.mono (fun b hb => hb.own))⟩
theorem flush_bad (w : World) (p : Nat) (v : Value) (s f : Nat) (d : Dev) (a n : Int) (h : HasD w p v s f d) (he : insE d.B.length a n ≠ 0) :
    Calls Tryz.prog 46 #[.pointer (some ⟨p, 0, none⟩), .int .i64 a, .int .i64 n] w fun e w' => e = .returned (.int .i64 (insE d.B.length a n)) ∧ Below w.heap.size w w' := by
  have HH := Aside0.mk h
  obtain ⟨er, her⟩ : ∃ er, er = insE d.B.length a n := ⟨_, rfl⟩
  have HE := Aside0.mk her.symm
  have hne : (er != 0) = true := by rw [her]; simpa using he
  clear h he her
  go_enter Tryz.func46, Tryz.ntmps46
  go_wp2_with (go_at_call 53; (with_reducible refine (ins_calls _ p _ s f d a n (HH.out.move (below_alloc (Below.refl _ _) _))).mono ?_); rw [HE.out]; rintro e w1 ⟨rfl, rfl⟩)
  go_ret
  rw [HE.out]
  exact ⟨rfl, below_alloc (Below.refl _ _) _⟩
theorem mid_run (A : Option Addr) (c : Nat) (xs : List Int) (a n : Nat) (hj : a + n ≤ xs.length) (hc : xs.length ≤ c) : ∃ A' : Option Addr, (∀ W : World, (Instr.slice 22 (.slice A xs.length c) (some (.int .i64 (a : Int))) (some (.int .i64 ((a : Int) + n))) none).run Tryz.prog W = .ok (.slice A' n (c - a)) W) ∧
    (∀ w : World, ReadsInt w .u8 A xs.length xs → ReadsInt w .u8 A' n (cut xs a n)) ∧ n ≤ c - a := by
  obtain ⟨i, hi, hz⟩ := info_of
  obtain ⟨A', h1, h2, h3⟩ := print_mid_int (P := Tryz.prog) (k := .u8) 22 5 Tryz.underlying22 hi hz A c xs (a : Int) ((a : Int) + n) (by omega) (by omega) (by omega) hc
  have e1 : ((xs.take ((a : Int) + n).toNat).drop (a : Int).toNat) = cut xs a n := by
    rw [show ((a : Int) + n).toNat = a + n by omega, Int.toNat_natCast, cut, ← List.take_drop]
  have e2 : (cut xs a n).length = n := cut_length hj
  rw [e1, e2] at h1 h2 h3
  exact ⟨A', h1, h2, by omega⟩
theorem read_good (w : World) (p : Nat) (v : Value) (s f : Nat) (d : Dev) (a n : Nat) (h : HasD w p v s f d) (he : insE d.B.length a n = 0) :
    Calls Tryz.prog 24 #[.pointer (some ⟨p, 0, none⟩), .int .i64 a, .int .i64 n] w fun e w' => ∃ u : Value, e = .returned (.tuple #[u, .int .i64 0]) ∧ Kd.R (Kd.int .u8) 5 w' w.heap.size (fun _ => True) u (cut d.B a n) ∧ Below w.heap.size w w' := by
  have HH := Aside0.mk h
  have HE := Aside0.mk he
  obtain ⟨_, _, hin⟩ := ins_ok he
  have hm := h.ok.max
  obtain ⟨B0, c0, hv, hc0, hr0⟩ := h.reads
  subst hv
  have p0 := blk_cell h.ptr (i := 0) rfl
  have HR := Aside0.mk hr0
  obtain ⟨D, hdr, hdq, hdc⟩ := mid_run B0 c0 d.B a n (by omega) hc0
  have HC := Aside0.mk (show ReadsInt w .u8 D (cut d.B a n).length (cut d.B a n) by rw [cut_length (by omega)]; exact hdq w hr0)
  have HL := Aside0.mk (show (cut d.B a n).length = n from cut_length (by omega))
  clear h he hr0 hdq
  go_enter Tryz.func24, Tryz.ntmps24
  go_wp2_with (first | (go_at_call 53; (with_reducible refine (ins_calls _ p _ s f d a n HH.out).mono ?_); rw [HE.out]; rintro e w2 ⟨rfl, rfl⟩) | (go_at_call 54; have hcl := clone_bytes D (c0 - a) (cut d.B a n) w HC.out (by rw [HL.out]; omega); rw [HL.out] at hcl; (with_reducible refine hcl.mono ?_); rintro e w3 ⟨u, rfl, hu3, hb3⟩; clear hcl))
  go_ret2
  exact ⟨u, rfl, hu3, hb3⟩
end Go.Proofs.YtbfogcckbhkciaaGreat.Hand
namespace Go.Proofs.YtbfogcckbhkciaaGreat.Hand
set_option linter.unusedVariables false
set_option linter.unusedSimpArgs false
open Go.RowKit Go.Maps Go.Proofs.YtbfogcckbhkciaaGreatW.PrintWords
set_option linter.unusedVariables false
def Dev.fence (d : Dev) : Dev := { B := d.B, S := fun j => if d.F j then none else d.S j, F := fun _ => false }
theorem Dev.Ok.fence {d : Dev} (h : d.Ok) : d.fence.Ok := by
  refine ⟨h.len, h.max, h.bys, fun j hj => ?_, fun j c hj => ?_, fun j hj => by cases hj⟩
  · refine h.dom j ?_
    simp only [Dev.fence] at hj
    split at hj
    · cases hj
    · exact hj
  · refine h.safe j c ?_
    simp only [Dev.fence] at hj
    split at hj
    · cases hj
    · exact hj
def fenS (d : Dev) (left : Lit → Bool) : Nat → Option (List Int) := fun j => if d.F j && !left (.int .i64 j) then none else d.S j
theorem fenS_start {d : Dev} {D : DataW Value} (h : Fits D (flF d.F)) : fenS d (has D) = d.S := by
  funext j
  rw [fenS, (h _).1, flF_nat]
  cases d.F j <;> simp
theorem fenS_end {d : Dev} {left : Lit → Bool} (h : ∀ kl, left kl = false) : fenS d left = d.fence.S := by
  funext j
  rw [fenS, h]
  simp [Dev.fence]
theorem fenS_step {d : Dev} {left : Lit → Bool} {k : Nat} (hk : d.F k = true) (x : Lit) : delF (safeF (fenS d left)) (.int .i64 k) x = safeF (fenS d (fun z => left z && !z.sameKey (.int .i64 k))) x := by
  by_cases hx : x = .int .i64 k
  · subst hx
    rw [delF, if_pos (sameKey_int _ _), safeF_nat]
    simp [fenS, hk, sameKey_int]
  · rw [delF, if_neg (by rw [sameKey_ne hx]; simp)]
    unfold safeF
    split
    · rename_i a
      split
      · rename_i ha
        have : (Lit.int .i64 a).sameKey (.int .i64 k) = false := sameKey_ne hx
        rw [fenS, fenS, Int.toNat_of_nonneg ha, this]
        simp
      · rfl
    · rfl
theorem held_inv {v : Value} {y : DataW Value × List MemPlace} (h : heldR v = some y) : y.1 = .held v := by
  simp only [heldR, Option.some.injEq] at h
  rw [← h]
theorem fl_key {d : Dev} {D : DataW Value} (h : Fits D (flF d.F)) {kl : Lit} {v : Value} (hat : ∀ zd, D.atKey kl zd = .held v) : ∃ k : Nat, kl = .int .i64 k ∧ d.F k = true := by
  have := has_true_of_atKey hat
  rw [(h kl).1] at this
  exact flF_some this
theorem safe_key {S : Nat → Option (List Int)} {D : DataW Value} (h : Fits D (safeF S)) {kl : Lit} {v : Value} (hat : ∀ zd, D.atKey kl zd = .held v) : ∃ (k : Nat) (c : List Int), kl = .int .i64 k ∧ S k = some c ∧ v = cellV c := by
  have h1 := has_true_of_atKey hat
  rw [(h kl).1] at h1
  obtain ⟨k, rfl, hs⟩ := safeF_some h1
  obtain ⟨c, hc⟩ := Option.isSome_iff_exists.1 hs
  refine ⟨k, c, rfl, hc, ?_⟩
  have h2 := (h _).2 (cellV c) (getD_some8 hc) .nil
  rw [hat] at h2
  injection h2
set_option maxRecDepth 100000 in
theorem fence_calls (w : World) (p : Nat) (v : Value) (s f : Nat) (d : Dev) (h : HasD w p v s f d) :
    Calls Tryz.prog 47 #[.pointer (some ⟨p, 0, none⟩)] w fun e w' => e = .returned (.tuple #[]) ∧ HasD w' p v s f d.fence ∧ Fr (OwnD v s f) w w' := by
  have HH := Aside0.mk h
  have c2 := blk_cell h.ptr (i := 2) rfl
  obtain ⟨D, hD, hfit⟩ := h.fl
  have HD := Aside0.mk hD
  have HFIT := Aside0.mk hfit
  clear h hD hfit
  go_enter Tryz.func47, Tryz.ntmps47
  go_wp2_with (at_range; refine wpList_range_own _ rfl _ _ rfl 3 3 law_int Tryz.underlying101 heldR f _ D rfl HD.out ?_; intro w0 hrg0 hg0 hs0)
  go_frame
  have HRG0 := Aside0.mk hrg0
  have HG0 := Aside0.mk hg0
  have HS0 := Aside0.mk hs0
  have hfr0 : Fr (MapsD s f) w w0 := (Fr.refl _ _).grown hg0 (fun k hk => by cases hk)
  have HFR0 := Aside0.mk hfr0
  have HM0 := Aside0.mk (show MapF Tryz.prog 3 w0 s (safeF (fenS d (has D))) by rw [fenS_start HFIT.out]; exact HH.out.safe.kept hg0 (by simp))
  clear hrg0 hg0 hs0 hfr0 c2
  go_loopw [2] (fun _ wr => ∃ left cnt, Aside0 (wr.ranges Tryz.prog 3 heldR f w.heap.size (Maps.size D) D left cnt) ∧ Aside0 (MapF Tryz.prog 3 wr s (safeF (fenS d left))) ∧ Aside0 (Fr (fun b => b = s ∨ b = w.heap.size) w wr)) (fun _ wr => wr.rangeLeft f w.heap.size)
  case atStart => exact ⟨has D, Maps.size D, HRG0, HM0, ⟨(Fr.refl _ _).grown HG0.out (fun k hk => by cases hk)⟩⟩
  case round =>
    obtain ⟨left, cnt, HRG, HM, HFR⟩ := hrel
    have c1 := HFR.out.cell (blk_cell HH.out.ptr (i := 1) rfl) (fun e => by rcases e with e | e; exact HH.out.p_own (.inr (.inl e)); exact absurd HH.out.p_lt (by rw [show p = w.heap.size from e]; exact Nat.lt_irrefl _))
    have c2 := HFR.out.cell (blk_cell HH.out.ptr (i := 2) rfl) (fun e => by rcases e with e | e; exact HH.out.p_own (.inr (.inl e)); exact absurd HH.out.p_lt (by rw [show p = w.heap.size from e]; exact Nat.lt_irrefl _))
    go_wp2_with (at_next; refine wpList_next_ranges _ rfl _ rfl 3 law_int heldR (Value.int .i64) (fun (x : Value) => x) (fun key kl hkey => by obtain ⟨x, rfl, _⟩ := Maps.keyOf_int_inv Tryz.underlying3 hkey; exact ⟨x, rfl⟩) (fun u y hu => ⟨u, rfl⟩) f w.heap.size _ D left cnt rfl HRG.out ?_ ?_)
    · intro _ hl0
      have HE := Aside0.mk (fenS_end (d := d) hl0)
      clear hl0
      have HMF := Aside0.mk (MapF.of_own HRG.out.owns HFIT.out)
      go_wp2_with ((with_reducible refine gate_bi (b := .clear) (xs := #[.tmp 20]) rfl ?_); refine wpList_clear rfl (.tmp 20) 101 rfl Tryz.underlying101 rfl HMF.out ?_; intro w2 hm2 ht2)
      go_end0
      have hS := HH.out
      have hf2 : Fr (fun b => b = f) wr w2 := ht2.fr rfl
      have hfr : Fr (fun b => (b = s ∨ b = w.heap.size) ∨ b = f) w w2 := (HFR.out.mono (fun b hb => .inl hb)).trans' (hf2.mono (fun b hb => .inr hb))
      have hne : ∀ b, b ≠ s → b ≠ f → b < w.heap.size → w2.heap[b]? = w.heap[b]? := fun b h1 h2 hl => hfr.block b hl (fun e => by rcases e with (e | e) | e; exact h1 e; omega; exact h2 e)
      refine ⟨rfl, ⟨(hne p (fun e => hS.p_own (.inr (.inl e))) (fun e => hS.p_own (.inr (.inr e))) hS.p_lt).trans hS.ptr, R_at hS.row (fun b hb => hne b (hS.v_ne hb).1 (hS.v_ne hb).2 (hS.own_lt (.inl hb))), ?_, hm2.congr (fun kl => ?_), hS.ne, hS.ok.fence⟩, ?_⟩
      · rw [← HE.out]
        exact HM.out.fr hf2 hS.ne
      · unfold flF
        split
        · simp [Dev.fence]
        · rfl
      · refine ⟨hfr.os, hfr.tape, hfr.output, hfr.size, fun b hb hn => hne b (fun e => hn (.inr (.inl e))) (fun e => hn (.inr (.inr e))) hb⟩
    · intro x c kl yd yp w1 cnt1 hkey hlk hv hat hrg1 hlt hg1 hs1 hen
      obtain ⟨k, hkl, hF⟩ := fl_key HFIT.out (v := c) (fun zd => (hat zd).trans (held_inv (y := (yd, yp)) hv))
      subst hkl
      obtain ⟨x', ex, ekl, _⟩ := Maps.keyOf_int_inv Tryz.underlying3 hkey
      simp only [Value.int.injEq, true_and] at ex
      subst ex
      simp only [Lit.int.injEq, true_and] at ekl
      subst ekl
      have HF := Aside0.mk hF
      have HRG1 := Aside0.mk hrg1
      have HKY := Aside0.mk hkey
      have HLT := Aside0.mk hlt
      have HG1 := Aside0.mk hg1
      have hne2 : w.heap.size ≠ s := fun e => absurd HH.out.safe.lt (by rw [← e]; exact Nat.lt_irrefl _)
      have HM1 := Aside0.mk (HM.out.kept hg1 (fun e => hne2 (by injection e with e; exact e.symm)))
      have e1 := (Fr.grown (S := fun b => b = w.heap.size) (Fr.refl _ wr) hg1 (fun k hk => .inl (by injection hk with hk; exact hk.symm))).cell c1 (fun e => absurd HH.out.p_lt (by rw [show p = w.heap.size from e]; exact Nat.lt_irrefl _))
      clear hrg1 hkey hlk hv hat hlt hg1 hs1 hF hne2
      go_wp2_with (at_delete; refine wpList_del rfl (.tmp 15) (.tmp 16) 100 rfl law_int Tryz.underlying100 rfl HM1.out (.int .i64 k) (.int .i64 k) rfl HKY.out ?_; intro w2 hm2 ht2; go_frame)
      have hg2 := ht2.grown
      have hrg2 : w2.ranges Tryz.prog 3 heldR f w.heap.size (Maps.size D) D (fun z => left z && !z.sameKey (.int .i64 k)) cnt1 := HRG1.out.kept hg2 (fun e => HH.out.ne (by injection e with e; exact e.symm)) (fun e => absurd HH.out.safe.lt (by injection e with e; rw [← e]; exact Nat.lt_irrefl _))
      refine ⟨⟨_, cnt1, ⟨hrg2⟩, ⟨hm2.congr (fun x => fenS_step HF.out x)⟩, ⟨?_⟩⟩, ?_⟩
      · exact (HFR.out.grown HG1.out (fun j hj => .inl (.inr (by injection hj with hj; exact hj.symm)))).trans' (ht2.fr (.inl rfl))
      · rw [hrg2.left_eq, HRG.out.left_eq]
        exact HLT.out
end Go.Proofs.YtbfogcckbhkciaaGreat.Hand
namespace Go.Proofs.YtbfogcckbhkciaaGreat.Hand
set_option linter.unusedVariables false
set_option linter.unusedSimpArgs false
open Go.RowKit Go.Maps Go.Proofs.YtbfogcckbhkciaaGreatW.PrintWords
set_option linter.unusedVariables false
def idxM (l : List Int) (k : Int) : Int := match l.findIdx? (· == k) with | some i => (i : Int) | none => -1
theorem idxM_neg {l : List Int} {k : Int} : decide (0 ≤ idxM l k) = decide (k ∈ l) := by
  refine decide_eq_decide.2 ?_
  unfold idxM
  cases h : l.findIdx? (· == k) with
  | some i =>
    obtain ⟨h1, h2, _⟩ := List.findIdx?_eq_some_iff_getElem.1 h
    have h3 : l[i] = k := by simpa using h2
    exact ⟨fun _ => by rw [← h3]; exact List.getElem_mem _, fun _ => by simp⟩
  | none =>
    have := List.findIdx?_eq_none_iff.1 h
    exact ⟨fun h => absurd h (by simp), fun hk => absurd (this k hk) (by simp)⟩
theorem idx_calls (w : World) (A : Option Addr) (c : Nat) (l : List Int) (k : Int) (hr : ReadsInt w .i64 A l.length l) :
    Calls Tryz.prog 70 #[.slice A l.length c, .int .i64 k] w fun e w' => e = .returned (.int .i64 (idxM l k)) ∧ Below w.heap.size w w' := by
  have HR := Aside0.mk hr
  have hl := hr.2.1
  clear hr
  go_enter Tryz.func70, Tryz.ntmps70
  go_wp2
  go_loop [8] (fun i => ∃ j : Nat, j ≤ l.length ∧ i = .int .i64 j ∧ Aside0 (∀ m (hm : m < l.length), m < j → l[m] ≠ k)) (fun i => (l.length - intOf i).toNat)
  case atStart => exact ⟨0, Nat.zero_le _, rfl, ⟨fun m _ h => absurd h (Nat.not_lt_zero _)⟩⟩
  case round =>
    obtain ⟨j, hj, rfl, HN⟩ := hrel
    by_cases hlt : j < l.length
    · obtain ⟨ad, rfl, hx⟩ := HR.out.2.2 (by omega)
      have x0 := hx j hlt
      have HRD := Aside0.mk (show l.getD j 0 = l[j] by rw [List.getD_eq_getElem?_getD, List.getElem?_eq_getElem hlt]; rfl)
      clear hx
      generalize l.getD j 0 = y at x0 HRD
      by_cases he : k = y
      · have he1 : (k == y) = true := by simp [he]
        have HI := Aside0.mk (show idxM l k = j by
          have : l.findIdx? (· == k) = some j := List.findIdx?_eq_some_iff_getElem.2 ⟨hlt, by rw [← HRD.out, he]; simp, fun m hm => by simpa using HN.out m (by omega) hm⟩
          rw [idxM, this])
        clear he
        go_wp2
        go_ret
        rw [HI.out]
        exact ⟨rfl, Below.refl _ _⟩
      · have he1 : (k == y) = false := by simp [he]
        have HN1 := Aside0.mk (show ∀ m (hm : m < l.length), m < j + 1 → l[m] ≠ k from fun m hm h1 => by
          by_cases h2 : m = j
          · subst h2; rw [← HRD.out]; exact fun e => he e.symm
          · exact HN.out m hm (by omega))
        clear he
        go_wp2
        go_round
        case rel => exact ⟨j + 1, by omega, by go_num, HN1⟩
        case measure => simp [intOf]; omega
    · obtain rfl : j = l.length := by omega
      have HI := Aside0.mk (show idxM l k = -1 by
        have : l.findIdx? (· == k) = none := List.findIdx?_eq_none_iff.2 (fun x hx => by
          obtain ⟨m, hm, rfl⟩ := List.getElem_of_mem hx
          simpa using HN.out m hm hm)
        rw [idxM, this])
      go_wp2
      go_ret
      rw [HI.out]
      exact ⟨rfl, Below.refl _ _⟩
theorem contains_calls (w : World) (A : Option Addr) (c : Nat) (l : List Int) (k : Int) (hr : ReadsInt w .i64 A l.length l) :
    Calls Tryz.prog 49 #[.slice A l.length c, .int .i64 k] w fun e w' => e = .returned (.bool (decide (k ∈ l))) ∧ Below w.heap.size w w' := by
  have HR := Aside0.mk hr
  have HE := Aside0.mk (idxM_neg (l := l) (k := k))
  obtain ⟨x, hx⟩ : ∃ x, x = idxM l k := ⟨_, rfl⟩
  have HX := Aside0.mk hx.symm
  clear hr hx
  go_enter Tryz.func49, Tryz.ntmps49
  go_wp2_with (go_at_call 70; (with_reducible refine (idx_calls _ A c l k HR.out).mono ?_); rw [HX.out]; rintro e w2 ⟨rfl, hb2⟩)
  go_ret
  rw [← HE.out, HX.out]
  exact ⟨rfl, hb2⟩
theorem lost_calls (w : World) (q : Nat) (A : Option Addr) (c : Nat) (l : List Int) (k : Int) (hq : w.cell? ⟨q, 0, none⟩ = some (.slice A l.length c)) (hr : ReadsInt w .i64 A l.length l) :
    Calls Tryz.prog 48 #[.int .i64 k, .pointer (some ⟨q, 0, none⟩)] w fun e w' => e = .returned (.bool (!decide (k ∈ l))) ∧ Below w.heap.size w w' := by
  have HR := Aside0.mk hr
  obtain ⟨x, hx⟩ : ∃ x, x = decide (k ∈ l) := ⟨_, rfl⟩
  have HX := Aside0.mk hx.symm
  clear hr hx
  go_enter Tryz.func48, Tryz.ntmps48
  go_wp2_with (go_at_call 49; (with_reducible refine (contains_calls _ A c l k HR.out).mono ?_); rw [HX.out]; rintro e w2 ⟨rfl, hb2⟩)
  go_ret
  rw [HX.out]
  exact ⟨rfl, hb2⟩
def mapW (g : Nat → List Int) : Nat → Nat → List Int
  | _, 0 => []
  | a, m + 1 => g a ++ mapW g (a + 1) m
theorem mapW_length {g : Nat → List Int} {a m : Nat} (h : ∀ j, a ≤ j → j < a + m → (g j).length = 8) : (mapW g a m).length = 8 * m := by
  induction m generalizing a with
  | zero => rfl
  | succ m ih =>
    rw [mapW, List.length_append, h a (Nat.le_refl _) (by omega), ih (fun j h1 h2 => h j (by omega) (by omega))]
    omega
theorem mapW_add (g : Nat → List Int) (a m n : Nat) : mapW g a (m + n) = mapW g a m ++ mapW g (a + m) n := by
  induction m generalizing a with
  | zero => simp [mapW]
  | succ m ih => rw [Nat.succ_add, mapW, mapW, ih, List.append_assoc, show a + 1 + m = a + (m + 1) by omega]
theorem mapW_congr {g g' : Nat → List Int} {a m : Nat} (h : ∀ j, a ≤ j → j < a + m → g j = g' j) : mapW g a m = mapW g' a m := by
  induction m generalizing a with
  | zero => rfl
  | succ m ih => rw [mapW, mapW, h a (Nat.le_refl _) (by omega), ih (fun j h1 h2 => h j (by omega) (by omega))]
theorem mapW_word {B : List Int} {a m : Nat} (h : 8 * (a + m) ≤ B.length) : mapW (word B) a m = cut B (8 * a) (8 * m) := by
  induction m generalizing a with
  | zero => simp [mapW, cut]
  | succ m ih =>
    rw [mapW, ih (by omega), word, cut, cut, cut, show 8 * (m + 1) = 8 + 8 * m by omega, List.take_add, List.drop_drop, show 8 * (a + 1) = 8 * a + 8 by omega]
theorem mapW_self {B : List Int} (h : B.length % 8 = 0) : mapW (word B) 0 (B.length / 8) = B := by
  rw [mapW_word (by omega), cut, Nat.mul_zero, List.drop_zero, List.take_of_length_le (by omega)]
theorem mapW_split (g : Nat → List Int) {n k : Nat} (hk : k < n) : mapW g 0 n = mapW g 0 k ++ (g k ++ mapW g (k + 1) (n - k - 1)) := by
  conv => lhs; rw [show n = k + (1 + (n - k - 1)) by omega, mapW_add, mapW_add]
  simp [mapW]
theorem mapW_splice {g : Nat → List Int} {n k : Nat} (h : ∀ j, j < n → (g j).length = 8) (hk : k < n) (c : List Int) (hc : c.length = 8) :
    (mapW g 0 n).take (8 * k) ++ (c ++ (mapW g 0 n).drop (8 * k + 8)) = mapW (fun j => if j = k then c else g j) 0 n := by
  have hl : (mapW g 0 k).length = 8 * k := mapW_length (fun j _ h2 => h j (by omega))
  rw [mapW_split g hk, mapW_split (fun j => if j = k then c else g j) hk, if_pos rfl, List.take_left' hl, ← List.drop_drop, List.drop_left' hl, List.drop_left' (h k hk)]
  congr 1
  · exact mapW_congr (fun j _ h2 => by rw [if_neg (by omega)])
  · congr 1
    exact mapW_congr (fun j h1 _ => by rw [if_neg (by omega)])
theorem mapW_bys {g : Nat → List Int} (h : ∀ j, Bys (g j)) (a m : Nat) : Bys (mapW g a m) := by
  induction m generalizing a with
  | zero => intro x hx; cases hx
  | succ m ih =>
    intro x hx
    rcases List.mem_append.1 hx with hx | hx
    · exact h a x hx
    · exact ih _ x hx
theorem word_mapW {g : Nat → List Int} {n k : Nat} (h : ∀ j, j < n → (g j).length = 8) (hk : k < n) : word (mapW g 0 n) k = g k := by
  have hl : (mapW g 0 k).length = 8 * k := mapW_length (fun j _ h2 => h j (by omega))
  rw [word, cut, mapW_split g hk, List.drop_left' hl, List.take_left' (h k hk)]
def Dev.lossW (d : Dev) (keep : List Int) (j : Nat) : List Int := match d.S j with | some c => if (j : Int) ∈ keep then word d.B j else c | none => word d.B j
def Dev.crash (d : Dev) (keep : List Int) : Dev := { B := mapW (d.lossW keep) 0 (d.B.length / 8), S := fun _ => none, F := fun _ => false }
theorem Dev.Ok.lossW {d : Dev} (h : d.Ok) (keep : List Int) {j : Nat} (hj : j < d.B.length / 8) : (d.lossW keep j).length = 8 := by
  unfold Dev.lossW
  split
  · rename_i c hc
    split
    · exact word_length (by omega)
    · exact (h.safe j c hc).1
  · exact word_length (by omega)
theorem Dev.Ok.lossW_bys {d : Dev} (h : d.Ok) (keep : List Int) (j : Nat) : Bys (d.lossW keep j) := by
  unfold Dev.lossW
  split
  · rename_i c hc
    split
    · exact word_bys h.bys j
    · exact (h.safe j c hc).2
  · exact word_bys h.bys j
def leftW (d : Dev) (keep : List Int) (left : Lit → Bool) (j : Nat) : List Int := if left (.int .i64 j) then word d.B j else d.lossW keep j
theorem leftW_length {d : Dev} (h : d.Ok) (keep : List Int) (left : Lit → Bool) {j : Nat} (hj : j < d.B.length / 8) : (leftW d keep left j).length = 8 := by
  unfold leftW
  split
  · exact word_length (by omega)
  · exact h.lossW keep hj
def leftB (d : Dev) (keep : List Int) (left : Lit → Bool) : List Int := mapW (leftW d keep left) 0 (d.B.length / 8)
theorem leftB_start {d : Dev} (h : d.Ok) (keep : List Int) {D : DataW Value} (hf : Fits D (safeF d.S)) : leftB d keep (has D) = d.B := by
  rw [leftB]
  conv => rhs; rw [← mapW_self h.len]
  refine mapW_congr (fun j _ _ => ?_)
  unfold leftW
  split
  · rfl
  · rename_i hn
    unfold Dev.lossW
    rw [(hf _).1, safeF_nat] at hn
    split
    · rename_i c hc
      rw [hc] at hn
      exact absurd rfl hn
    · rfl
theorem leftB_end {d : Dev} (keep : List Int) {left : Lit → Bool} (h : ∀ kl, left kl = false) : leftB d keep left = (d.crash keep).B := by
  rw [leftB, Dev.crash]
  exact mapW_congr (fun j _ _ => by rw [leftW, h]; rfl)
theorem leftB_length {d : Dev} (h : d.Ok) (keep : List Int) (left : Lit → Bool) : (leftB d keep left).length = d.B.length := by
  rw [leftB, mapW_length (fun j _ hj => leftW_length h keep left (by omega))]
  have := h.len
  omega
theorem sameKey_nat {j k : Nat} (h : j ≠ k) : (Lit.int .i64 j).sameKey (.int .i64 k) = false := sameKey_ne (fun e => h (by simp only [Lit.int.injEq, true_and] at e; omega))
theorem leftB_lost {d : Dev} (h : d.Ok) (keep : List Int) (left : Lit → Bool) {k : Nat} {c : List Int} (hc : d.S k = some c) (hk : (k : Int) ∉ keep) :
    (leftB d keep left).take (8 * k) ++ (c ++ (leftB d keep left).drop (8 * k + 8)) = leftB d keep (fun z => left z && !z.sameKey (.int .i64 k)) := by
  have hkn : k < d.B.length / 8 := by have := h.dom k (by rw [hc]; rfl); omega
  rw [leftB, mapW_splice (fun j hj => leftW_length h keep left hj) hkn c (h.safe k c hc).1, leftB]
  refine mapW_congr (fun j _ _ => ?_)
  by_cases hj : j = k
  · subst hj
    rw [if_pos rfl, leftW, sameKey_int]
    simp [Dev.lossW, hc, hk]
  · rw [if_neg hj, leftW, leftW, sameKey_nat hj]
    simp
theorem leftB_kept {d : Dev} (h : d.Ok) (keep : List Int) (left : Lit → Bool) {k : Nat} (hk : (k : Int) ∈ keep) : leftB d keep left = leftB d keep (fun z => left z && !z.sameKey (.int .i64 k)) := by
  refine mapW_congr (fun j _ _ => ?_)
  by_cases hj : j = k
  · subst hj
    rw [leftW, leftW, sameKey_int]
    have : d.lossW keep j = word d.B j := by
      unfold Dev.lossW
      split
      · rw [if_pos hk]
      · rfl
    simp [this]
  · rw [leftW, leftW, sameKey_nat hj]
    simp
theorem Dev.Ok.crash {d : Dev} (h : d.Ok) (keep : List Int) : (d.crash keep).Ok := by
  have hl : (d.crash keep).B.length = d.B.length := by
    rw [Dev.crash, mapW_length (fun j _ hj => h.lossW keep (by omega))]
    have := h.len
    omega
  exact ⟨by rw [hl]; exact h.len, by rw [hl]; exact h.max, mapW_bys (fun j => h.lossW_bys keep j) _ _, fun j hj => (by cases hj), fun j c hj => (by cases hj), fun j hj => (by cases hj)⟩
theorem crash_length {d : Dev} (h : d.Ok) (keep : List Int) : (d.crash keep).B.length = d.B.length := by
  rw [Dev.crash, mapW_length (fun j _ hj => h.lossW keep (by omega))]
  have := h.len
  omega
theorem reads_frA {q : IntKind} {S : Nat → Prop} {w w1 : World} {A : Option Addr} {n : Nat} {l : List Int} (hr : ReadsInt w q A n l) (hf : Fr S w w1) (hs : 0 < n → ∀ ad, A = some ad → ¬ S ad.block) : ReadsInt w1 q A n l :=
  ⟨hr.1, hr.2.1, fun h0 => by
    obtain ⟨ad, e, hx⟩ := hr.2.2 h0
    refine ⟨ad, e, fun j hj => hf.cell (hx j hj) ?_⟩
    have : (ad.add j).block = ad.block := by unfold Addr.add; split <;> rfl
    rw [this]
    exact hs h0 ad e⟩
theorem arr_reads {w : World} {b : Nat} {t : TypeId} {y0 y1 y2 y3 y4 y5 y6 y7 : Int} (h : w.heap[b]? = some (.cells #[.int .u8 y0, .int .u8 y1, .int .u8 y2, .int .u8 y3, .int .u8 y4, .int .u8 y5, .int .u8 y6, .int .u8 y7] t (0, 0))) : ReadsInt w .u8 (some ⟨b, 0, none⟩) 8 [y0, y1, y2, y3, y4, y5, y6, y7] :=
  ⟨rfl, by simp, fun _ => ⟨_, rfl, fun j hj => by
    rw [add_plain]
    rcases (show j = 0 ∨ j = 1 ∨ j = 2 ∨ j = 3 ∨ j = 4 ∨ j = 5 ∨ j = 6 ∨ j = 7 by omega) with rfl | rfl | rfl | rfl | rfl | rfl | rfl | rfl <;> exact blk_cell h rfl⟩⟩
theorem grown_of_below {w w1 : World} (h : Below w.heap.size w w1) : w.grownBy w1 none := ⟨h.os, h.tape, h.output, h.size, fun i hi _ => h.block i hi⟩
theorem from_run (g n c m : Nat) (i : Int) (hi : i = m) (hm : m ≤ n) (hc : m < c) (W : World) : (Instr.slice 22 (.slice (some ⟨g, 0, none⟩) n c) (some (.int .i64 i)) none none).run Tryz.prog W = .ok (.slice (some ⟨g, m, none⟩) (n - m) (c - m)) W := by
  subst hi
  obtain ⟨j, hj, hz⟩ := info_of
  have hel : Tryz.prog.elem 22 = 5 := by simp [Program.elem, Tryz.underlying22]
  have hu : Tryz.prog.underlying 22 = some (.slice (Tryz.prog.elem 22)) := by rw [hel]; exact Tryz.underlying22
  rw [run_slice_l W 22 _ n c hu .i64 (m : Int) (Int.natCast_nonneg _) (by omega), hel]
  have : ¬ c = m := by omega
  simp [sizeOf, typeInfo, hj, hz, sliced, Result.andThen, this, Addr.add]
  exact fun h => h.symm
set_option maxRecDepth 100000 in
theorem crash_calls (w : World) (p : Nat) (v : Value) (s f : Nat) (d : Dev) (A : Option Addr) (c : Nat) (keep : List Int) (h : HasD w p v s f d) (hr : ReadsInt w .i64 A keep.length keep) (hA : 0 < keep.length → ∀ ad, A = some ad → ¬ some ad.block = v.ownBlock) :
    Calls Tryz.prog 22 #[.pointer (some ⟨p, 0, none⟩), .slice A keep.length c] w fun e w' => e = .returned (.tuple #[]) ∧ HasD w' p v s f (d.crash keep) ∧ Fr (OwnD v s f) w w' := by
  have HH := Aside0.mk h
  have d1 := cell_alloc (blk_cell h.ptr (i := 1) rfl)
  obtain ⟨D, hD, hfit⟩ := h.safe
  have HD := Aside0.mk hD
  have HFIT := Aside0.mk hfit
  have HR := Aside0.mk hr
  have HOK := Aside0.mk h.ok
  have hnp := h.p_own
  clear h hD hfit hr
  go_enter Tryz.func22, Tryz.ntmps22
  go_wp2_with (at_range; refine wpList_range_own _ rfl _ _ rfl 3 108 law_int Tryz.underlying100 heldR s _ D rfl (HD.out.alloc _) ?_; intro w0 hrg0 hg0 hs0; rw [World.size_alloc])
  go_frame
  rw [World.size_alloc] at hrg0
  have HRG0 := Aside0.mk hrg0
  have hfr0 : Fr (fun b => some b = v.ownBlock) w w0 := ((Fr.refl _ _).alloc (.cells #[.slice A keep.length c] 52)).grown hg0 (fun k hk => by cases hk)
  have HFR0 := Aside0.mk hfr0
  have HBK := Aside0.mk (show w0.heap[w.heap.size]? = some (.cells #[.slice A keep.length c] 52 (0, 0)) from (hg0.block w.heap.size (by simp) (by simp)).trans (heap_alloc_new _ _))
  have HB0 := Aside0.mk (show Kd.R (Kd.int .u8) 5 w0 0 (fun k => k ≠ p) v (leftB d keep (has D)) by
    rw [leftB_start HOK.out keep HFIT.out]
    exact R_at HH.out.row (fun b hb => (hg0.block b (by have := HH.out.own_lt (.inl hb); simp; omega) (by simp)).trans (heap_alloc_old _ _ (HH.out.own_lt (.inl hb)))))
  have HS0 := Aside0.mk (show w.heap.size + 2 ≤ w0.heap.size by rw [hs0, World.size_alloc]; omega)
  clear hrg0 hg0 hs0 hfr0 d1
  go_loopw [5, 6] (fun _ _ wr => ∃ left cnt, Aside0 (wr.ranges Tryz.prog 3 heldR s (w.heap.size + 1) (Maps.size D) D left cnt) ∧ Aside0 (Kd.R (Kd.int .u8) 5 wr 0 (fun k => k ≠ p) v (leftB d keep left)) ∧ Aside0 (wr.heap[w.heap.size]? = some (.cells #[.slice A keep.length c] 52 (0, 0))) ∧ Aside0 (Fr (fun b => some b = v.ownBlock) w wr) ∧ Aside0 (w.heap.size + 2 ≤ wr.heap.size)) (fun _ _ wr => wr.rangeLeft s (w.heap.size + 1))
  case atStart => exact ⟨has D, Maps.size D, HRG0, HB0, HBK, HFR0, HS0⟩
  case round =>
    obtain ⟨left, cnt, HRG, HB, HBQ, HFR, HSZ⟩ := hrel
    have c1 := HFR.out.cell (blk_cell HH.out.ptr (i := 1) rfl) (fun e => hnp (.inl e))
    have c2 := HFR.out.cell (blk_cell HH.out.ptr (i := 2) rfl) (fun e => hnp (.inl e))
    go_wp2_with (at_next; refine wpList_next_ranges _ rfl _ rfl 3 law_int heldR (Value.int .i64) (fun (x : Value) => x) (fun key kl hkey => by obtain ⟨x, rfl, _⟩ := Maps.keyOf_int_inv Tryz.underlying3 hkey; exact ⟨x, rfl⟩) (fun u y hu => ⟨u, rfl⟩) s (w.heap.size + 1) _ D left cnt rfl HRG.out ?_ ?_)
    · intro _ hl0
      have HE := Aside0.mk (leftB_end (d := d) keep hl0)
      clear hl0
      have HMS := Aside0.mk (MapF.of_own HRG.out.owns HFIT.out)
      have HF1 := Aside0.mk (HH.out.fl.fr HFR.out (fun e => (HH.out.v_ne e).2 rfl))
      go_wp2_with (first | ((with_reducible refine gate_bi (b := .clear) (xs := #[.tmp 33]) rfl ?_); refine wpList_clear rfl (.tmp 33) 100 rfl Tryz.underlying100 rfl HMS.out ?_; intro w2 hm2 ht2; have HM2 := Aside0.mk hm2; have HT2 := Aside0.mk ht2; have e2 := (ht2.fr (S := fun b => b = s) rfl).cell c2 (fun e => hnp (.inr (.inl e))); have HF2 := Aside0.mk (HF1.out.fr (ht2.fr (S := fun b => b = s) rfl) (fun e => HH.out.ne e.symm)); clear hm2 ht2) | ((with_reducible refine gate_bi (b := .clear) (xs := #[.tmp 37]) rfl ?_); refine wpList_clear rfl (.tmp 37) 101 rfl Tryz.underlying101 rfl HF2.out ?_; intro w3 hm3 ht3))
      go_end0
      have hS := HH.out
      have hf23 : Fr (MapsD s f) wr w3 := (HT2.out.fr (S := MapsD s f) (.inl rfl)).trans' (ht3.fr (.inr rfl))
      have hfr : Fr (OwnD v s f) w w3 := (HFR.out.mono (fun b hb => .inl hb)).trans' (hf23.mono (fun b hb => hb.own))
      refine ⟨rfl, ⟨(hfr.block p hS.p_lt hS.p_own).trans hS.ptr, ?_, ?_, hm3.congr (fun kl => ?_), hS.ne, hS.ok.crash keep⟩, hfr⟩
      · rw [← HE.out]
        exact R_at HB.out (fun b hb => by
          obtain ⟨cs, t, fr, hc⟩ := own_blk HB.out hb
          exact hf23.block b (blk_lt hc) (fun e => by rcases e with e | e; exact (hS.v_ne hb).1 e; exact (hS.v_ne hb).2 e))
      · refine (HM2.out.fr (ht3.fr (S := fun b => b = f) rfl) hS.ne).congr (fun kl => ?_)
        unfold safeF
        split
        · split <;> rfl
        · rfl
      · unfold flF
        split
        · simp [Dev.crash]
        · rfl
    · intro x u kl yd yp w1 cnt1 hkey hlk hv hat hrg1 hlt hg1 hs1 hen
      obtain ⟨k, cc, hkl, hcc, hu⟩ := safe_key HFIT.out (v := u) (fun zd => (hat zd).trans (held_inv (y := (yd, yp)) hv))
      subst hkl hu
      obtain ⟨x', ex, ekl, _⟩ := Maps.keyOf_int_inv Tryz.underlying3 hkey
      simp only [Value.int.injEq, true_and] at ex
      subst ex
      simp only [Lit.int.injEq, true_and] at ekl
      subst ekl
      have hkB := HOK.out.dom k (by rw [hcc]; rfl)
      have hmx := HOK.out.max
      obtain ⟨y0, y1, y2, y3, y4, y5, y6, y7, rfl⟩ := list8 (HOK.out.safe k cc hcc).1
      have HCC := Aside0.mk hcc
      have HRG1 := Aside0.mk hrg1
      have HLT := Aside0.mk hlt
      have hvn : ¬ some (w.heap.size + 1) = v.ownBlock := fun e => absurd (HH.out.own_lt (.inl e)) (by omega)
      have HB1 := Aside0.mk (R_at HB.out (fun b hb => by
          obtain ⟨cs, t, fr, hc⟩ := own_blk HB.out hb
          exact hg1.block b (blk_lt hc) (fun e => hvn (by rw [← Option.some.inj e]; exact hb))))
      have HBQ1 := Aside0.mk ((hg1.block w.heap.size (by have := HSZ.out; omega) (fun e => by have := Option.some.inj e; omega)).trans HBQ.out)
      have HFR1 := Aside0.mk (HFR.out.grown hg1 (fun j hj => .inr (by have := Option.some.inj hj; omega)))
      have HSZ1 := Aside0.mk (show w.heap.size + 2 ≤ w1.heap.size by rw [hs1]; exact HSZ.out)
      have HEN := Aside0.mk hen
      have hen2 : (Instr.entry (.pointer (some ⟨w.heap.size + 1, 0, none⟩))).run Tryz.prog w1 = .ok (.tuple #[.int .i64 k, .agg #[.int .u8 y0, .int .u8 y1, .int .u8 y2, .int .u8 y3, .int .u8 y4, .int .u8 y5, .int .u8 y6, .int .u8 y7]]) w1 := hen
      have q0 := cell_alloc (blk_cell HBQ1.out (i := 0) rfl)
      clear hrg1 hkey hlk hv hat hlt hg1 hs1 hcc hen hvn
      by_cases hm : (k : Int) ∈ keep
      · have HMM := Aside0.mk (show decide ((k : Int) ∈ keep) = true from decide_eq_true hm)
        have HKE := Aside0.mk (leftB_kept HOK.out keep left hm)
        clear hm c1 c2
        go_wp2_with (go_at_call 48; have hlc := lost_calls _ w.heap.size A c keep k (q0 (.cells #[.int .u8 y0, .int .u8 y1, .int .u8 y2, .int .u8 y3, .int .u8 y4, .int .u8 y5, .int .u8 y6, .int .u8 y7] 108)) (reads_frA HR.out (HFR1.out.alloc _) hA); rw [HMM.out] at hlc; (with_reducible refine hlc.mono ?_); rintro e w2 ⟨rfl, hb2⟩; have HB2 := Aside0.mk (bel_step (below_alloc (Below.refl w1.heap.size w1) _) hb2); have HBX := Aside0.mk ((hb2.block w1.heap.size (by simp)).trans (heap_alloc_new w1 _)); clear hlc hb2)
        have hgb := grown_of_below HB2.out
        have hrg2 := HRG1.out.kept hgb (by simp) (by simp)
        refine ⟨⟨_, cnt1, ⟨hrg2⟩, ⟨?_⟩, ⟨(HB2.out.block _ (blk_lt HBQ1.out)).trans HBQ1.out⟩, ⟨HFR1.out.then_below HB2.out⟩, ⟨Nat.le_trans HSZ1.out HB2.out.size⟩⟩, ?_⟩
        · rw [← HKE.out]
          exact Kd.R_below HB1.out HB2.out
        · rw [hrg2.left_eq, HRG.out.left_eq]
          exact HLT.out
      · have HMM := Aside0.mk (show decide ((k : Int) ∈ keep) = false from decide_eq_false hm)
        have HLO := Aside0.mk (leftB_lost HOK.out keep left HCC.out hm)
        clear hm c1 c2
        go_wp2_with (go_at_call 48; have hlc := lost_calls _ w.heap.size A c keep k (q0 (.cells #[.int .u8 y0, .int .u8 y1, .int .u8 y2, .int .u8 y3, .int .u8 y4, .int .u8 y5, .int .u8 y6, .int .u8 y7] 108)) (reads_frA HR.out (HFR1.out.alloc _) hA); rw [HMM.out] at hlc; (with_reducible refine hlc.mono ?_); rintro e w2 ⟨rfl, hb2⟩; have HB2 := Aside0.mk (bel_step (below_alloc (Below.refl w1.heap.size w1) _) hb2); have HBX := Aside0.mk ((hb2.block w1.heap.size (by simp)).trans (heap_alloc_new w1 _)); clear hlc hb2)
        have HFR2 := Aside0.mk (HFR1.out.then_below HB2.out)
        have hB2 := Kd.R_below HB1.out HB2.out
        have hln := leftB_length HOK.out keep left
        obtain ⟨g, cap, rfl, hg1, hg2, hcap, hcap2⟩ := own_slice_form hB2 (by omega)
        rw [hln] at hB2 HB1 HH HB hcap
        have e0 : w2.cell? ⟨p, 0, none⟩ = some (.slice (some ⟨g, 0, none⟩) d.B.length cap) := HFR2.out.cell (blk_cell HH.out.ptr (i := 0) rfl) (fun e => hnp (.inl e))
        have HB2r := Aside0.mk hB2
        have HLN := Aside0.mk hln
        have e8 : IntKind.i64.wrap ((k : Int) * 8) = k * 8 := IntWalk.i64_in _ (by omega)
        have hfr := fun W => from_run g d.B.length cap (k * 8) ((k : Int) * 8) (by omega) (by omega) (by omega) W
        clear hB2 hln q0 hen2
        go_still_tail 8, (by kernel_rfl)
        have HRD := Aside0.mk (show Kd.R (Kd.int .u8) 5 w2.drew 0 (fun k => k ≠ p) (.slice (some ⟨g, 0, none⟩) (leftB d keep left).length cap) (leftB d keep left) by rw [HLN.out]; exact HB2r.out)
        have HCY := Aside0.mk (show ReadsInt w2.drew .u8 (some ⟨w1.heap.size, 0, none⟩) 8 [y0, y1, y2, y3, y4, y5, y6, y7] from arr_reads HBX.out)
        have HL8 := Aside0.mk (show k * 8 + 8 ≤ (leftB d keep left).length by rw [HLN.out]; omega)
        clear e8 hfr e0
        change wpList _ _ _ _ _ w2.drew
        go_wp2_with ((with_reducible refine gate_bi (b := .copy) (xs := #[.tmp 27, .tmp 28]) rfl ?_); go_must (refine wpList_copy_at (enc := Value.int .u8) (h1 := fun _ => rfl) (0 : Int) rfl (.tmp 27) (.tmp 28) 22 22 5 rfl Tryz.underlying22 (by kernel_rfl) g cap (k * 8) (some ⟨g, k * 8, none⟩) (d.B.length - k * 8) (cap - k * 8) (leftB d keep left) [y0, y1, y2, y3, y4, y5, y6, y7] (some ⟨w1.heap.size, 0, none⟩) 8 8 0 (fun k => k ≠ p) rfl rfl HRD.out (Kd.C_of_reads (d := (0 : Int)) (h1 := fun _ => rfl) HCY.out) HL8.out (by omega) (fun _ => rfl) ?_); intro w3 hr3 hg3; go_frame)
        have hgb := (grown_of_below (HB2.out.drew))
        have hgl : g < w.heap.size := HH.out.own_lt (.inl rfl)
        have hgs : g ≠ s := (HH.out.v_ne rfl).1
        have hrg2 := (HRG1.out.kept hgb (by simp) (by simp)).kept hg3 (fun e => hgs (Option.some.inj e).symm) (fun e => by have := Option.some.inj e; omega)
        refine ⟨⟨_, cnt1, ⟨hrg2⟩, ⟨?_⟩, ⟨?_⟩, ⟨?_⟩, ⟨?_⟩⟩, ?_⟩
        · have h := hr3
          rw [Nat.mul_comm k 8] at h
          rw [← HLO.out]
          exact h
        · exact (hg3.block w.heap.size (by have := HSZ1.out; have := HB2.out.size; show _ < w2.heap.size; omega) (fun e => by have := Option.some.inj e; omega)).trans ((HB2.out.block _ (blk_lt HBQ1.out)).trans HBQ1.out)
        · exact ((HFR1.out.then_below HB2.out).drew).grown hg3 (fun j hj => .inl hj.symm)
        · exact Nat.le_trans HSZ1.out (Nat.le_trans HB2.out.size hg3.size)
        · rw [hrg2.left_eq, HRG.out.left_eq]
          exact HLT.out
end Go.Proofs.YtbfogcckbhkciaaGreat.Hand
namespace Go.Proofs.YtbfogcckbhkciaaGreat.Hand
set_option linter.unusedVariables false
set_option linter.unusedSimpArgs false
open Go.RowKit Go.Maps Go.Sort Go.Shelf Go.Proofs.YtbfogcckbhkciaaGreatW.PrintWords
set_option linter.unusedVariables false
theorem sorts_int (m : Nat) : AnyZI.SortsIn Tryz.prog Tryz.sortedA_ren Fence.wide m :=
  ⟨fun blk off cap ss W hH hblk hsz => callsIn_wide.2 (AnyM.slices_Sort_int Tryz.sortA blk off cap ss W hH hblk hsz),
   fun p cap W => callsIn_wide.2 (AnyM.slices_Sort_int_none Tryz.sortA p cap W)⟩
def looseM (d : Dev) : List Int := ((List.range (d.B.length / 8)).filter fun k => (d.S k).isSome).map fun (k : Nat) => (k : Int)
theorem looseM_mem {d : Dev} (h : d.Ok) (x : Int) : x ∈ looseM d ↔ (safeF d.S (.int .i64 x)).isSome = true := by
  rw [looseM, List.mem_map]
  constructor
  · rintro ⟨k, hk, rfl⟩
    rw [List.mem_filter] at hk
    rw [safeF_nat, Option.isSome_map]
    exact hk.2
  · intro hx
    obtain ⟨k, e, hs⟩ := safeF_some hx
    simp only [Lit.int.injEq, true_and] at e
    refine ⟨k, List.mem_filter.2 ⟨List.mem_range.2 ?_, hs⟩, e.symm⟩
    have := h.dom k hs
    omega
theorem looseM_lt (d : Dev) : (looseM d).Pairwise (fun a b => a < b) := by
  rw [looseM, List.pairwise_map]
  refine List.Pairwise.imp ?_ (List.Pairwise.filter _ List.pairwise_lt_range)
  intro a b h
  omega
theorem looseM_sorted {d : Dev} {D : DataW Value} {w : World} {b n : Nat} (h : d.Ok) (hown : w.ownsMap Tryz.prog 3 heldR b n D) (hf : Fits D (safeF d.S)) {ss : List Int} (hp : ss.Perm (intKeys D)) : ss.mergeSort (fun x y => decide (x ≤ y)) = looseM d ∧ ss.length = (looseM d).length := by
  obtain ⟨es, hD, hpw, _⟩ := hown.entries law_int
  obtain ⟨es', hD', hko⟩ := hown.keysOf
  obtain rfl : es = es' := by rw [hD] at hD'; simpa using hD'
  subst hD
  have hnd : (looseM d).Nodup := (looseM_lt d).imp (fun h => by omega)
  have h1 : (looseM d).Perm (intKeys (.map es)) := perm_intKeys hpw (fun p hp => by
    obtain ⟨key, hk⟩ := hko p hp
    obtain ⟨x, _, e, _⟩ := Maps.keyOf_int_inv Tryz.underlying3 hk
    exact ⟨x, e⟩) hnd (fun x => by rw [looseM_mem h x, (hf _).1])
  have h2 := hp.trans h1.symm
  refine ⟨?_, h2.length_eq⟩
  rw [mergeSort_of_perm_i h2]
  exact List.mergeSort_of_pairwise ((looseM_lt d).imp (fun h => by simp only [decide_eq_true_eq]; omega))
theorem loose_calls (w : World) (p : Nat) (v : Value) (s f : Nat) (d : Dev) (h : HasD w p v s f d) :
    Calls Tryz.prog 43 #[.pointer (some ⟨p, 0, none⟩)] w fun e w' => ∃ u : Value, e = .returned u ∧ Kd.R (Kd.int .i64) 3 w' w.heap.size (fun _ => True) u (looseM d) ∧ Below w.heap.size w w' := by
  have c1 := blk_cell h.ptr (i := 1) rfl
  obtain ⟨D, hD, hfit⟩ := h.safe
  have hsz : Maps.size D ≤ 8192 := size_le_of_room law_int hD hfit h.ok.roomS
  refine (callsIn_wide (n := 6)).1 ?_
  have hseq : SeqGives Fence.wide 2 Tryz.prog 81 #[.pointer (some ⟨w.heap.size, 0, none⟩)] encZ (fun ss => ss.Perm (intKeys D)) (Maps.size D) (w.alloc (.cells #[.map (some s)] 100)) :=
    AnyZI.keys_gives (ρ := Tryz.keysA_ren) { Tryz.keysA with } Fence.wide _ trivial rfl (by omega) w.heap.size s (Maps.size D) D _ (by simp) (by simp) (hD.alloc _)
  have cK : ∀ mb W, CallsIn Fence.wide 5 Tryz.prog 65 #[.map mb] W fun e w' => e = .returned (.func (.func 81) #[] #[.pointer (some ⟨W.heap.size, 0, none⟩)]) ∧ w' = W.alloc (.cells #[.map mb] 100) := fun mb W => AnyZI.keys_in Tryz.keysA Fence.wide 5 trivial rfl mb W
  have cS := AnyZI.sorted_in Tryz.sortedA Fence.wide 5 trivial trivial trivial trivial rfl (by omega) (sorts_int _) (enters_of Tryz.func80 (by kernel_rfl) rfl) 81 #[.pointer (some ⟨w.heap.size, 0, none⟩)] trivial (enters_of Tryz.func81 (by kernel_rfl) rfl) _ _ (by unfold maxLen; omega) (by omega) _ hseq
  change CallsIn _ _ Tryz.prog 64 _ _ _ at cS
  have hfK : Fence.wide.fn 65 := trivial
  have hfS : Fence.wide.fn 64 := trivial
  refine callsIn_of_wp Tryz.func43 rfl trivial ?_ rfl
  simp only [Tryz.ntmps43, List.size_toArray, List.length_cons, List.length_nil, Nat.reduceAdd, Nat.reduceSub, Array.replicate_succ, Array.replicate_zero, List.push_toArray, List.append_toArray, List.nil_append, List.cons_append]
  have HD := Aside0.mk hD
  have HFIT := Aside0.mk hfit
  have HOK := Aside0.mk h.ok
  clear h hD hfit hseq hsz
  gi_wp2_with (first | (gi_at_call 65; refine (cK _ _).mono ?_; rintro e w' ⟨rfl, rfl⟩) | (gi_at_call 64; refine cS.mono ?_; rintro e w' ⟨u, ss, rfl, hS, hrow, hnil, hb⟩))
  go_ret
  obtain ⟨h1, h2⟩ := looseM_sorted HOK.out HD.out HFIT.out hS
  rw [h1, h2] at hrow
  refine ⟨u, rfl, Kd.R_of_own (ownsRow_base_a hrow (by simp)) (fun _ _ => trivial), ?_⟩
  exact ((Below.refl _ w).alloc (Nat.le_refl _) _).trans (hb.mono (by simp))
end Go.Proofs.YtbfogcckbhkciaaGreat.Hand
namespace Go.Proofs.YtbfogcckbhkciaaGreat.Hand
set_option linter.unusedVariables false
set_option linter.unusedSimpArgs false
open Go.RowKit Go.Maps Go.Proofs.YtbfogcckbhkciaaGreatW.PrintWords
set_option linter.unusedVariables false
theorem bel_cell {w w1 : World} (h : Below w.heap.size w w1) {a : Addr} {v : Value} (hc : w.cell? a = some v) : w1.cell? a = some v := (h.cell (World.block_lt_of_cell? _ _ hc)).trans hc
def Dev.of (B : List Int) : Dev := { B := B, S := fun _ => none, F := fun _ => false }
theorem Dev.Ok.of {B : List Int} (h1 : B.length % 8 = 0) (h2 : B.length ≤ 65536) (h3 : Bys B) : (Dev.of B).Ok := ⟨h1, h2, h3, fun k h => (by cases h), fun k c h => (by cases h), fun k h => (by cases h)⟩
theorem safeF_none (kl : Lit) : safeF (fun _ => none) kl = none := by
  unfold safeF
  split
  · split <;> rfl
  · rfl
theorem flF_none (kl : Lit) : flF (fun _ => false) kl = none := by
  unfold flF
  split
  · simp
  · rfl
def NewDev (w : World) (B : List Int) (e : Ending) (w' : World) : Prop :=
  ∃ (q : Nat) (u : Value) (s f : Nat), e = .returned (.tuple #[.pointer (some ⟨q, 0, none⟩), .int .i64 0]) ∧ HasD w' q u s f (Dev.of B) ∧ w.heap.size ≤ q ∧ (∀ b, OwnD u s f b → w.heap.size ≤ b) ∧ Below w.heap.size w w'
set_option maxRecDepth 100000 in
theorem of_calls (w : World) (A : Option Addr) (c : Nat) (B : List Int) (hr : ReadsInt w .u8 A B.length B) (hb : Bys B) (h1 : B.length % 8 = 0) (h2 : B.length ≤ 65536) :
    Calls Tryz.prog 17 #[.slice A B.length c] w (NewDev w B) := by
  have HR := Aside0.mk hr
  have HBY := Aside0.mk hb
  have H1 := Aside0.mk h1
  have h3 : ((B.length : Int) % 8 != 0) = false := by simp; omega
  have hmm := @run_makeMap Tryz.prog
  have HL := Aside0.mk h2
  clear hr hb h1
  go_enter Tryz.func17, Tryz.ntmps17
  go_wp2_with (at_builtin; refine Kd.R_append_row (Value.int .u8) 0 (h1 := fun _ => rfl) (w0 := w) w.heap.size rfl (.tmp 13) (.tmp 14) 22 5 (.int .u8 0) 1 rfl Tryz.underlying22 info_u8 rfl (by decide) (.slice (some ⟨w.heap.size, 0, none⟩) 0 0) [] B A B.length c (fun _ => True) rfl rfl (fun _ _ => trivial) ?c1 ?c2 ?c3 ?c4 ?c5 ?_)
  case c1 => exact Kd.R_of_own (World.ownsRow_made w #[] 0 (Nat.le_refl _) (Nat.zero_le _) rfl) (fun _ _ => trivial)
  case c2 => exact Kd.C_below (d := Kd.int .u8) (Kd.C_of_reads (d := (0 : Int)) (h1 := fun _ => rfl) HR.out) (below_alloc (Below.refl _ _) _)
  case c3 => exact below_alloc (Below.refl _ _) _
  case c4 => simp
  case c5 => have := HL.out; simp; omega
  intro v1 w1 ho hb1 hg1 hat
  have ho' : Kd.R (Kd.int .u8) 5 w1 w.heap.size (fun _ => True) v1 B := ho
  obtain ⟨A2, c2, rfl, _, _⟩ := reads_own2 ho'
  have HO := Aside0.mk ho'
  have HB1 := Aside0.mk hb1
  clear ho ho' hb1 hg1 hat h3
  go_wp2
  go_ret2
  have hba := ((Below.refl w1.heap.size w1).alloc (Nat.le_refl _) (.map #[] 0)).alloc (by simp) (.map #[] 0)
  have hbb : Below w1.heap.size w1 (((w1.alloc (.map #[] 0)).alloc (.map #[] 0)).alloc (.cells #[Value.slice A2 B.length c2, Value.map (some w1.heap.size), Value.map (some (w1.heap.size + 1))] 103)) := hba.alloc (by simp; omega) _
  have hul : ∀ b, some b = (Value.slice A2 B.length c2).ownBlock → w.heap.size ≤ b ∧ b < w1.heap.size := fun b hb => by
    obtain ⟨cs, t, fr, hc⟩ := own_blk HO.out hb
    refine ⟨?_, blk_lt hc⟩
    have := Kd.own_of_R HO.out
    rcases this.2 with ⟨e, _⟩ | ⟨g, cap', cur, e, hbase, _⟩
    · rw [e] at hb; simp [Value.ownBlock] at hb
    · rw [e] at hb
      simp only [Value.ownBlock, Option.some.injEq] at hb
      rw [hb]
      exact hbase
  have hsz := HB1.out.size
  refine ⟨w1.heap.size + 1 + 1, _, w1.heap.size, w1.heap.size + 1, ?_, ⟨alloc_three _ _ _ _, ?_, ?_, ?_, by omega, Dev.Ok.of H1.out HL.out HBY.out⟩, by omega, ?_, bel_step HB1.out hbb⟩
  · simp
  · refine Kd.R_of_own (ownsRow_base_a (Kd.own_of_R (Kd.R_below HO.out hbb)) (Nat.zero_le _)) (fun k hk => ?_)
    have := (hul k hk.symm).2
    omega
  · refine (((MapF.made w1).below (below_alloc (Below.refl _ _) _)).below (below_alloc (Below.refl _ _) _)).congr (fun kl => (safeF_none kl).symm)
  · have := MapF.made (P := Tryz.prog) (k := 3) (w1.alloc (.map #[] 0))
    rw [World.size_alloc] at this
    exact (this.below (below_alloc (Below.refl _ _) _)).congr (fun kl => (flF_none kl).symm)
  · rintro b (hb | rfl | rfl)
    · exact (hul b hb).1
    · omega
    · omega
theorem of_bad (w : World) (A : Option Addr) (n c : Nat) (h : n % 8 ≠ 0 ∨ 65536 < n) :
    Calls Tryz.prog 17 #[.slice A n c] w fun e w' => e = .returned (.tuple #[.pointer none, .int .i64 1]) ∧ Below w.heap.size w w' := by
  by_cases h1 : n % 8 = 0
  · have h2 : ((n : Int) % 8 != 0) = false := by simp; omega
    have h3 : 65536 < n := by omega
    clear h h1
    go_enter Tryz.func17, Tryz.ntmps17
    go_wp2
    go_ret2
    exact ⟨rfl, Below.refl _ _⟩
  · have h2 : ((n : Int) % 8 != 0) = true := by simp; omega
    clear h h1
    go_enter Tryz.func17, Tryz.ntmps17
    go_wp2
    go_ret2
    exact ⟨rfl, Below.refl _ _⟩
theorem zeros_reads (w : World) (m : Nat) (hm : m ≤ 9223372036854775807) : ReadsInt (w.alloc (.cells (madeCells #[.int .u8 0] m) 5)) .u8 (some ⟨w.heap.size, 0, none⟩) m (List.replicate m 0) := by
  refine ⟨by simp, hm, fun _ => ⟨_, rfl, fun j hj => ?_⟩⟩
  rw [add_plain, Nat.zero_add]
  have hn := heap_alloc_new w (.cells (madeCells #[.int .u8 0] m) 5)
  refine blk_cell hn ?_
  rw [List.getD_eq_getElem?_getD, List.getElem?_replicate, if_pos hj]
  simp [madeCells, hj, Nat.mod_one]
theorem NewDev.from {w w1 : World} {B : List Int} {e : Ending} {w' : World} (h : NewDev w1 B e w') (hb : Below w.heap.size w w1) : NewDev w B e w' := by
  obtain ⟨q, u, s, f, he, hd, hq, ho, hb2⟩ := h
  exact ⟨q, u, s, f, he, hd, Nat.le_trans hb.size hq, fun b hb' => Nat.le_trans hb.size (ho b hb'), bel_step hb hb2⟩
theorem zeros_bys (m : Nat) : Bys (List.replicate m 0) := fun x hx => by
  rw [List.eq_of_mem_replicate hx]
  omega
set_option maxRecDepth 100000 in
theorem new_calls (w : World) (n : Nat) (h : n ≤ 8192) :
    Calls Tryz.prog 20 #[.int .i64 n] w (NewDev w (List.replicate (8 * n) 0)) := by
  have km := print_make_int (P := Tryz.prog) 22 5 (.int .u8 0) 1 Tryz.underlying22 info_u8 rfl (by decide) ((n : Int) * 8) (by omega) (by omega)
  rw [show ((n : Int) * 8).toNat = 8 * n by omega] at km
  have HZ := Aside0.mk (zeros_reads w (8 * n) (by omega))
  have HL := Aside0.mk (show (List.replicate (8 * n) (0 : Int)).length = 8 * n by simp)
  go_enter Tryz.func20, Tryz.ntmps20
  go_wp2_with (go_at_call 17; have hof := of_calls (w.alloc (.cells (madeCells #[.int .u8 0] (8 * n)) 5)) (some ⟨w.heap.size, 0, none⟩) (8 * n) (List.replicate (8 * n) 0) (by rw [HL.out]; exact HZ.out) (zeros_bys _) (by rw [HL.out]; omega) (by rw [HL.out]; omega); rw [HL.out] at hof; (with_reducible refine hof.mono ?_); intro e w2 hN; replace hN := hN.from (below_alloc (Below.refl w.heap.size w) _); obtain ⟨q, u, s, f, rfl, hN⟩ := hN; clear hof)
  go_ret2
  exact ⟨q, u, s, f, rfl, hN⟩
end Go.Proofs.YtbfogcckbhkciaaGreat.Hand
namespace Go.Proofs.YtbfogcckbhkciaaGreat.Hand
set_option linter.unusedVariables false
set_option linter.unusedSimpArgs false
open Go.RowKit Go.Proofs.YtbfogcckbhkciaaGreatW.PrintWords
section
variable {α : Type} {encA : α → List Value} {sz : Nat} {hl : ∀ x, (encA x).length = sz} {h1 : ∀ x, ∀ u ∈ encA x, u.oneCell' = true}
theorem rows_of {w : World} {a : Addr} {k : Nat} {Wf : α → Prop} (hx : ∀ i, i < k → ∃ x : α, Wf x ∧ ∀ j, j < sz → w.cell? (a.add (i * sz + j)) = (encA x)[j]?) :
    ∃ L : List α, L.length = k ∧ ∀ i x, L[i]? = some x → Wf x ∧ ∀ j, j < sz → w.cell? (a.add (i * sz + j)) = (encA x)[j]? := by
  induction k with
  | zero => exact ⟨[], rfl, fun i x h => by simp at h⟩
  | succ k ih =>
    obtain ⟨L, hL, h⟩ := ih (fun i hi => hx i (by omega))
    obtain ⟨x, hw, hc⟩ := hx k (by omega)
    refine ⟨L ++ [x], by simp [hL], fun i y hy => ?_⟩
    by_cases hi : i < L.length
    · rw [List.getElem?_append_left hi] at hy
      exact h i y hy
    · have hik : i = L.length := by
        have := (List.getElem?_eq_some_iff.1 hy).1
        simp at this
        omega
      subst hik
      rw [List.getElem?_append_right (Nat.le_refl _)] at hy
      simp at hy
      subst hy
      rw [hL]
      exact ⟨hw, hc⟩
theorem add_add (a : Addr) (i j : Nat) : (a.add i).add j = a.add (i + j) := by
  unfold Addr.add
  split <;> split <;> simp_all <;> (try omega)
theorem open_flat {H : Type} {enc : TypeId × Value → H} {P : Program} {w : World} {spare : Nat → Bool} {held : Bool} {t e : TypeId} {A : Option Addr} {len cap : Nat} {d : DataW H} {ps : List MemPlace} {Wf : α → Prop}
    (ht : P.underlying t = some (.slice e)) (hsz : P.cellsOf e = sz) (hel : ∀ n cs y, DataW.trod enc P w 0 spare held n e cs = some y → ∃ x : α, cs = encA x ∧ Wf x)
    (h : DataW.Trod enc P w 0 spare held t (.slice A len cap) d ps) : ∃ L : List α, len = L.length ∧ (flat encA sz hl h1).C w A L.length L ∧ ∀ x ∈ L, Wf x := by
  obtain ⟨fuel, hf⟩ := h
  rcases Go.Deep.open_slice ht hf with ⟨hcs, _⟩ | ⟨a, l, c, m, n, D, Pl, hcs, _, hlc, hm, hmm, _, hx⟩
  · simp [Value.cells] at hcs
    obtain ⟨rfl, rfl, rfl⟩ := hcs
    exact ⟨[], rfl, ⟨rfl, by simp, fun h => absurd h (by simp)⟩, fun x hx => absurd hx (by simp)⟩
  · simp [Value.cells] at hcs
    obtain ⟨rfl, rfl, rfl⟩ := hcs
    have hlm : len ≤ m := by rw [hmm]; split <;> omega
    obtain ⟨L, hL, hLx⟩ := rows_of (w := w) (a := a) (k := len) (sz := sz) (encA := encA) (Wf := Wf) (fun i hi => by
      obtain ⟨cs', h2, h3⟩ := hx i (by omega)
      obtain ⟨x, rfl, hw⟩ := hel _ _ _ h3
      rw [hsz] at h2
      obtain ⟨_, _, hc⟩ := World.cells?_some h2
      exact ⟨x, hw, fun j hj => by rw [← add_add]; exact hc j hj⟩)
    refine ⟨L, hL.symm, ⟨rfl, by rw [hL]; simp only [maxLen] at hm; omega, fun _ => ⟨a, rfl, fun i x hix => ?_⟩⟩, fun x hx => ?_⟩
    · obtain ⟨_, hc⟩ := hLx i x hix
      refine ⟨encA x, hl x, rfl, fun j u hu => ?_⟩
      rw [← hu]
      exact hc j (by have := (List.getElem?_eq_some_iff.1 hu).1; rwa [hl] at this)
    · obtain ⟨i, hi⟩ := List.getElem?_of_mem hx
      exact (hLx i x hi).1
end
end Go.Proofs.YtbfogcckbhkciaaGreat.Hand
namespace Go.Proofs.YtbfogcckbhkciaaGreat.Hand
set_option linter.unusedVariables false
set_option linter.unusedSimpArgs false
open Go.RowKit Go.Maps Go.Proofs.YtbfogcckbhkciaaGreatW.PrintWords
set_option linter.unusedVariables false
structure OpP where
  z : Int
  at_ : Int
  long : Int
  A1 : Option Addr
  c1 : Nat
  bs : List Int
  A2 : Option Addr
  c2 : Nat
  ks : List Int
def encPo (x : OpP) : List Value := [.int .i64 x.z, .int .i64 x.at_, .int .i64 x.long, .slice x.A1 x.bs.length x.c1, .slice x.A2 x.ks.length x.c2]
theorem encPo_len (x : OpP) : (encPo x).length = 5 := rfl
theorem encPo_one (x : OpP) : ∀ u ∈ encPo x, u.oneCell' = true := by
  intro u hu
  simp only [encPo, List.mem_cons, List.not_mem_nil, or_false] at hu
  rcases hu with rfl | rfl | rfl | rfl | rfl <;> rfl
def PoK : Kd OpP := flat encPo 5 encPo_len encPo_one
structure WfPo (w : World) (x : OpP) : Prop where
  rb : ReadsInt w .u8 x.A1 x.bs.length x.bs
  by_ : Bys x.bs
  cb : x.bs.length ≤ x.c1
  rk : ReadsInt w .i64 x.A2 x.ks.length x.ks
  hz : -9223372036854775808 ≤ x.z ∧ x.z ≤ 9223372036854775807
  ha : -9223372036854775808 ≤ x.at_ ∧ x.at_ ≤ 9223372036854775807
  hl : -9223372036854775808 ≤ x.long ∧ x.long ≤ 9223372036854775807
def stepD (d : Dev) (x : OpP) : Dev :=
  if x.z = 0 then (if insE d.B.length x.at_ x.bs.length = 0 then d.write x.at_.toNat x.bs else d)
  else if x.z = 2 then (if insE d.B.length x.at_ x.long = 0 then d.flush x.at_.toNat x.long.toNat else d)
  else if x.z = 3 then d.fence
  else if x.z = 4 then d.crash x.ks
  else d
def runD (d : Dev) (os : List OpP) : Dev := os.foldl stepD d
theorem Dev.Ok.write {d : Dev} (h : d.Ok) {a : Nat} {l : List Int} (hl : Bys l) (hin : a + l.length ≤ d.B.length) : (d.write a l).Ok := by
  have hw : (d.hitW a l.length).Ok := by
    refine ⟨h.len, h.max, h.bys, fun j hj => ?_, fun j c hj => ?_, fun j hj => ?_⟩
    · simp only [Dev.hitW] at hj
      split at hj
      · rename_i hh
        have := h.len
        simp only [hitB, decide_eq_true_eq] at hh
        show 8 * j + 8 ≤ d.B.length
        omega
      · exact h.dom j hj
    · simp only [Dev.hitW] at hj
      split at hj
      · rename_i hh
        simp only [hitB, decide_eq_true_eq] at hh
        have hl8 := h.len
        simp only [Option.some.injEq] at hj
        cases hs : d.S j with
        | some c' =>
          rw [hs] at hj
          obtain rfl : c' = c := hj
          exact h.safe j c' hs
        | none =>
          rw [hs] at hj
          obtain rfl : word d.B j = c := hj
          exact ⟨word_length (by omega), word_bys h.bys j⟩
      · exact h.safe j c hj
    · simp only [Dev.hitW, Bool.and_eq_true, Bool.not_eq_true'] at hj ⊢
      rw [if_neg (by rw [hj.2]; simp)]
      exact h.sub j hj.1
  exact hw.setB (B := d.B.take a ++ (l ++ d.B.drop (a + l.length))) (splice_length hin) (splice_bys h.bys hl)
theorem Dev.Ok.flush {d : Dev} (h : d.Ok) (a n : Nat) : (d.flush a n).Ok := by
  refine ⟨h.len, h.max, h.bys, h.dom, h.safe, fun j hj => ?_⟩
  simp only [Dev.flush, Bool.or_eq_true, Bool.and_eq_true] at hj ⊢
  rcases hj with hj | hj
  · exact h.sub j hj
  · exact hj.2
theorem stepD_len {d : Dev} (h : d.Ok) (x : OpP) : (stepD d x).B.length = d.B.length := by
  unfold stepD
  split
  · split
    · rename_i hi
      obtain ⟨h1, h2, h3⟩ := ins_ok hi
      exact splice_length (by omega)
    · rfl
  · split
    · split <;> rfl
    · split
      · rfl
      · split
        · exact crash_length h _
        · rfl
theorem stepD_ok {d : Dev} (h : d.Ok) {w : World} {x : OpP} (hx : WfPo w x) : (stepD d x).Ok := by
  unfold stepD
  split
  · split
    · rename_i hi
      obtain ⟨h1, h2, h3⟩ := ins_ok hi
      exact h.write hx.by_ (by omega)
    · exact h
  · split
    · split
      · exact h.flush _ _
      · exact h
    · split
      · exact h.fence
      · split
        · exact h.crash _
        · exact h
end Go.Proofs.YtbfogcckbhkciaaGreat.Hand
namespace Go.Proofs.YtbfogcckbhkciaaGreat.Hand
set_option linter.unusedVariables false
set_option linter.unusedSimpArgs false
open Go.RowKit Go.Maps Go.Proofs.YtbfogcckbhkciaaGreatW.PrintWords
set_option linter.unusedVariables false
theorem runD_take {d : Dev} {os : List OpP} {k : Nat} {o : OpP} (h : os[k]? = some o) : runD d (os.take (k + 1)) = stepD (runD d (os.take k)) o := by
  have : os.take (k + 1) = os.take k ++ [o] := by rw [List.take_add_one, h]; rfl
  rw [this, runD, List.foldl_append]
  rfl
theorem reads_off {q : IntKind} {w : World} {A : Option Addr} {n : Nat} {l : List Int} (h : ReadsInt w q A n l) {v : Value} (hv : ∀ b, some b = v.ownBlock → w.heap.size ≤ b) : 0 < n → ∀ ad, A = some ad → ¬ some ad.block = v.ownBlock := by
  intro h0 ad e hb
  obtain ⟨ad', e', hx⟩ := h.2.2 h0
  rw [e] at e'
  obtain rfl := Option.some.inj e'
  have h1 := World.block_lt_of_cell? _ _ (hx 0 h0)
  have : (ad.add 0).block = ad.block := by unfold Addr.add; split <;> rfl
  rw [this] at h1
  have := hv _ hb
  omega
theorem WfPo.below {w w1 : World} {x : OpP} (h : WfPo w x) (hb : Below w.heap.size w w1) : WfPo w1 x := ⟨h.rb.below hb, h.by_, h.cb, h.rk.below hb, h.hz, h.ha, h.hl⟩
end Go.Proofs.YtbfogcckbhkciaaGreat.Hand
namespace Go.Proofs.YtbfogcckbhkciaaGreat.Hand
set_option linter.unusedVariables false
set_option linter.unusedSimpArgs false
open Go.RowKit Go.ChangeShapes Go.WideShapes Go.ChangeAt Go.Proofs.YtbfogcckbhkciaaGreatW.PrintWords
set_option linter.unusedVariables false
theorem open_i64s {H : Type} {enc : TypeId × Value → H} {W : World} {spare : Nat → Bool} {held : Bool} {a : Option Addr} {len cap : Nat} {n : Nat} {y : DataW H × List MemPlace}
    (hf : DataW.trod enc Tryz.prog W 0 spare held n 52 [.slice a len cap] = some y) : ∃ l : List Int, len = l.length ∧ ReadsInt W .i64 a l.length l := by
  rcases open_ints Tryz.underlying52 Tryz.underlying3 (by kernel_rfl) hf with ⟨hcs, _⟩ | ⟨x, l, c, zs, hcs, _, hl, hm, hz, _, hcell, hwz⟩
  · simp at hcs
    obtain ⟨rfl, rfl, rfl⟩ := hcs
    exact ⟨[], rfl, ⟨rfl, by simp, fun h => absurd h (by simp)⟩⟩
  · simp at hcs
    obtain ⟨rfl, rfl, rfl⟩ := hcs
    have hz' : len ≤ zs.length := by rw [hz]; split <;> omega
    have hlen : (zs.take len).length = len := by rw [List.length_take]; omega
    refine ⟨zs.take len, hlen.symm, ⟨rfl, by rw [hlen]; simp only [maxLen] at hm; omega, fun _ => ⟨x, rfl, fun j hj => ?_⟩⟩⟩
    rw [hlen] at hj
    rw [hcell j (by omega)]
    congr 2
    rw [List.getD_eq_getElem?_getD, List.getD_eq_getElem?_getD, List.getElem?_take_of_lt hj]
theorem open_u8s {H : Type} {enc : TypeId × Value → H} {W : World} {spare : Nat → Bool} {held : Bool} {a : Option Addr} {len cap : Nat} {n : Nat} {y : DataW H × List MemPlace}
    (hf : DataW.trod enc Tryz.prog W 0 spare held n 22 [.slice a len cap] = some y) : ∃ l : List Int, len = l.length ∧ ReadsInt W .u8 a l.length l ∧ Bys l ∧ len ≤ cap := by
  rcases open_ints Tryz.underlying22 Tryz.underlying5 (by kernel_rfl) hf with ⟨hcs, _⟩ | ⟨x, l, c, zs, hcs, _, hl, hm, hz, _, hcell, hwz⟩
  · simp at hcs
    obtain ⟨rfl, rfl, rfl⟩ := hcs
    exact ⟨[], rfl, ⟨rfl, by simp, fun h => absurd h (by simp)⟩, fun x hx => absurd hx (by simp), Nat.le_refl _⟩
  · simp at hcs
    obtain ⟨rfl, rfl, rfl⟩ := hcs
    have hz' : len ≤ zs.length := by rw [hz]; split <;> omega
    have hlen : (zs.take len).length = len := by rw [List.length_take]; omega
    refine ⟨zs.take len, hlen.symm, ⟨rfl, by rw [hlen]; simp only [maxLen] at hm; omega, fun _ => ⟨x, rfl, fun j hj => ?_⟩⟩, fun n hn => ?_, hl⟩
    · rw [hlen] at hj
      rw [hcell j (by omega)]
      congr 2
      rw [List.getD_eq_getElem?_getD, List.getD_eq_getElem?_getD, List.getElem?_take_of_lt hj]
    · have := hwz n (List.mem_of_mem_take hn)
      simp only [Lit.wf, IntKind.min, IntKind.max, IntKind.signed, IntKind.bits, Bool.and_eq_true] at this
      simp at this
      omega
theorem list5 {α : Type} {l : List α} (h : l.length = 5) : ∃ a b c d e, l = [a, b, c, d, e] := by
  match l, h with
  | [a, b, c, d, e], _ => exact ⟨a, b, c, d, e, rfl⟩
theorem okSlice {H : Type} {enc : TypeId × Value → H} {W : World} {spare : Nat → Bool} {held : Bool} {t e : TypeId} (ht : Tryz.prog.underlying t = some (.slice e)) {n : Nat} {v : Value} {y : DataW H × List MemPlace}
    (hf : DataW.trod enc Tryz.prog W 0 spare held n t [v] = some y) : ∃ a len cap, v = .slice a len cap := by
  rcases Go.Deep.open_slice ht hf with ⟨hcs, _⟩ | ⟨a, l, c, m, n, D, Pl, hcs, _⟩
  · exact ⟨none, 0, 0, by simpa using hcs⟩
  · exact ⟨some a, l, c, by simpa using hcs⟩
theorem po_cells {H : Type} {enc : TypeId × Value → H} {w : World} {spare : Nat → Bool} {held : Bool} {n : Nat} {cs : List Value} {y : DataW H × List MemPlace} (h : DataW.trod enc Tryz.prog w 0 spare held n 54 cs = some y) : ∃ x : OpP, cs = encPo x ∧ WfPo w x := by
  obtain ⟨xs, m, _, rfl, hlen, hxs, hf⟩ := DataW.trod_struct Tryz.underlying54 h
  obtain ⟨a, b, c, d, e, rfl⟩ := list5 (hlen.trans (show Tryz.prog.cellsOf 54 = 5 by kernel_rfl))
  have h0 : DataW.trod enc Tryz.prog w 0 spare held m 3 (([a, b, c, d, e].drop 0).take (Tryz.prog.cellsOf 3)) = xs[0]? := hf 0 _ rfl
  have h1 : DataW.trod enc Tryz.prog w 0 spare held m 3 (([a, b, c, d, e].drop 1).take (Tryz.prog.cellsOf 3)) = xs[1]? := hf 1 _ rfl
  have h2 : DataW.trod enc Tryz.prog w 0 spare held m 3 (([a, b, c, d, e].drop 2).take (Tryz.prog.cellsOf 3)) = xs[2]? := hf 2 _ rfl
  have h3 : DataW.trod enc Tryz.prog w 0 spare held m 22 (([a, b, c, d, e].drop 3).take (Tryz.prog.cellsOf 22)) = xs[3]? := hf 3 _ rfl
  have h4 : DataW.trod enc Tryz.prog w 0 spare held m 52 (([a, b, c, d, e].drop 4).take (Tryz.prog.cellsOf 52)) = xs[4]? := hf 4 _ rfl
  obtain ⟨y0, e0⟩ : ∃ y0, xs[0]? = some y0 := ⟨_, List.getElem?_eq_getElem (by rw [hxs]; decide)⟩
  obtain ⟨y1, e1⟩ : ∃ y0, xs[1]? = some y0 := ⟨_, List.getElem?_eq_getElem (by rw [hxs]; decide)⟩
  obtain ⟨y2, e2⟩ : ∃ y0, xs[2]? = some y0 := ⟨_, List.getElem?_eq_getElem (by rw [hxs]; decide)⟩
  obtain ⟨y3, e3⟩ : ∃ y0, xs[3]? = some y0 := ⟨_, List.getElem?_eq_getElem (by rw [hxs]; decide)⟩
  obtain ⟨y4, e4⟩ : ∃ y0, xs[4]? = some y0 := ⟨_, List.getElem?_eq_getElem (by rw [hxs]; decide)⟩
  rw [e0] at h0
  rw [e1] at h1
  rw [e2] at h2
  rw [e3] at h3
  rw [e4] at h4
  rw [show Tryz.prog.cellsOf 3 = 1 by kernel_rfl] at h0 h1 h2
  rw [show Tryz.prog.cellsOf 22 = 1 by kernel_rfl] at h3
  rw [show Tryz.prog.cellsOf 52 = 1 by kernel_rfl] at h4
  obtain ⟨q0, f0, _, w0⟩ := DataW.trod_int Tryz.underlying3 h0
  obtain ⟨q1, f1, _, w1⟩ := DataW.trod_int Tryz.underlying3 h1
  obtain ⟨q2, f2, _, w2⟩ := DataW.trod_int Tryz.underlying3 h2
  simp at f0 f1 f2
  subst f0 f1 f2
  simp only [List.drop_succ_cons, List.drop_zero, List.take_succ_cons, List.take_zero] at h3 h4
  obtain ⟨A1, n1, c1, rfl⟩ := okSlice Tryz.underlying22 h3
  obtain ⟨A2, n2, c2, rfl⟩ := okSlice Tryz.underlying52 h4
  obtain ⟨bs, rfl, rb, hb, hc⟩ := open_u8s h3
  obtain ⟨ks, rfl, rk⟩ := open_i64s h4
  exact ⟨⟨q0, q1, q2, A1, c1, bs, A2, c2, ks⟩, rfl, ⟨rb, hb, hc, rk, wf_i64 w0, wf_i64 w1, wf_i64 w2⟩⟩
end Go.Proofs.YtbfogcckbhkciaaGreat.Hand
namespace Go.Proofs.YtbfogcckbhkciaaGreat.Hand
set_option linter.unusedVariables false
set_option linter.unusedSimpArgs false
open Go.RowKit Go.Maps Go.Proofs.YtbfogcckbhkciaaGreatW.PrintWords
set_option linter.unusedVariables false
theorem take_rdi {l : List Int} {k : Nat} (h : k < l.length) : l.take (k + 1) = l.take k ++ [rd l k] := by
  rw [List.take_add_one]
  congr 1
  rw [rd]
  simp [h]
set_option maxRecDepth 100000 in
theorem same_calls (A B : Option Addr) (c d : Nat) (l m : List Int) (w : World) (hA : ReadsInt w .i64 A l.length l) (hB : ReadsInt w .i64 B m.length m) :
    Calls Tryz.prog 42 #[.slice A l.length c, .slice B m.length d] w fun e w' => e = .returned (.bool (decide (l = m))) ∧ Below w.heap.size w w' := by
  have HA := Aside0.mk hA
  have HB := Aside0.mk hB
  clear hA hB
  by_cases hlm : l.length = m.length
  · have hl : l.length ≤ 9223372036854775807 := HA.out.2.1
    have hlm2 : ((l.length : Int) != m.length) = false := by simp; omega
    go_enter Tryz.func42, Tryz.ntmps42
    go_wp2
    go_loopw [5] (fun i wr => ∃ k : Nat, k ≤ l.length ∧ i = .int .i64 k ∧ Aside0 (l.take k = m.take k) ∧ Aside0 (Below w.heap.size w wr)) (fun i _ => (l.length - intOf i).toNat)
    case atStart => exact ⟨0, Nat.zero_le _, rfl, ⟨rfl⟩, ⟨Below.refl _ _⟩⟩
    case round =>
      obtain ⟨k, hk, rfl, HT, HW⟩ := hrel
      by_cases hlt : k < l.length
      · obtain ⟨ad, rfl, hx⟩ := HA.out.2.2 (by omega)
        obtain ⟨bd, rfl, hy⟩ := HB.out.2.2 (by omega)
        have hx1 : wr.cell? (ad.add k) = some (.int .i64 (rd l k)) := (HW.out.cell (World.block_lt_of_cell? w _ (hx k hlt))).trans (hx k hlt)
        have hy1 : wr.cell? (bd.add k) = some (.int .i64 (rd m k)) := (HW.out.cell (World.block_lt_of_cell? w _ (hy k (by omega)))).trans (hy k (by omega))
        clear hx hy
        have HL := Aside0.mk (take_rdi (l := l) (k := k) hlt)
        have HM := Aside0.mk (take_rdi (l := m) (k := k) (by omega))
        by_cases he : rd l k = rd m k
        · go_wp2
          go_quiet (fail)
          go_wp2
          go_roundw
          case rel => exact ⟨k + 1, by omega, by go_num, ⟨by rw [HL.out, HM.out, HT.out, he]⟩, ⟨pw_below_drewN HW.out _⟩⟩
          case measure => simp [intOf]; omega
        · go_wp2
          go_quiet (fail)
          go_wp2
          go_ret
          refine ⟨congrArg (fun b => Ending.returned (.bool b)) ?_, pw_below_drewN HW.out _⟩
          rw [decide_eq_false (fun h => he (by rw [h]))]
      · obtain rfl : k = l.length := by omega
        go_wp2
        go_ret
        refine ⟨congrArg (fun b => Ending.returned (.bool b)) ?_, HW.out⟩
        have h1 := HT.out
        rw [List.take_of_length_le (Nat.le_refl _), List.take_of_length_le (by omega)] at h1
        rw [decide_eq_true h1]
  · have hlm2 : ((l.length : Int) != m.length) = true := by simp; omega
    have HE := Aside0.mk (show decide (l = m) = false from decide_eq_false (fun h => hlm (by rw [h])))
    go_enter Tryz.func42, Tryz.ntmps42
    go_wp2
    go_ret
    rw [HE.out]
    exact ⟨rfl, Below.refl _ _⟩
end Go.Proofs.YtbfogcckbhkciaaGreat.Hand
namespace Go.Proofs.YtbfogcckbhkciaaGreat.Hand
set_option linter.unusedVariables false
set_option linter.unusedSimpArgs false
open Go.RowKit Go.Maps Go.Proofs.YtbfogcckbhkciaaGreatW.PrintWords
set_option linter.unusedVariables false
theorem own_base {q : IntKind} {t : TypeId} {w : World} {base : Nat} {ok : Nat → Prop} {A : Option Addr} {c : Nat} {l : List Int} (h : Kd.R (Kd.int q) t w base ok (.slice A l.length c) l) : 0 < l.length → ∀ ad, A = some ad → base ≤ ad.block := by
  intro h0 ad hA
  obtain ⟨g, cap, e, hg, _⟩ := own_slice_form h h0
  simp only [Value.slice.injEq] at e
  rw [hA] at e
  have := Option.some.inj e.1
  rw [this]
  exact hg
section
variable (w : World) (p : Nat) (v : Value) (s f : Nat)
end
end Go.Proofs.YtbfogcckbhkciaaGreat.Hand
namespace Go.Proofs.YtbfogcckbhkciaaGreat.Hand
set_option linter.unusedVariables false
set_option linter.unusedSimpArgs false
open Go.RowKit Go.Maps Go.Proofs.YtbfogcckbhkciaaGreatW.PrintWords
set_option linter.unusedVariables false
set_option linter.unusedSimpArgs false
theorem conv_n {w : World} {A : Option Addr} {n c : Nat} {xs : List Int} (h : ReadsInt w .u8 A n xs) : (convert 22 9 (.slice A n c)).run Tryz.prog w = .ok (.string (strOfNums xs)) w := by
  have hl := h.1
  subst hl
  exact conv_reads h
def BoxAt (w : World) (b : Nat) (x : OpP) : Prop := w.heap[b]? = some (.cells #[.int .i64 x.z, .int .i64 x.at_, .int .i64 x.long, .slice x.A1 x.bs.length x.c1, .slice x.A2 x.ks.length x.c2] 54 (0, 0))
def boxed (w : World) (x : OpP) : World := w.alloc (.cells #[.int .i64 x.z, .int .i64 x.at_, .int .i64 x.long, .slice x.A1 x.bs.length x.c1, .slice x.A2 x.ks.length x.c2] 54)
theorem boxed_at (w : World) (x : OpP) : BoxAt (boxed w x) w.heap.size x := heap_alloc_new w _
theorem BoxAt.below {w w1 : World} {b : Nat} {x : OpP} (h : BoxAt w b x) (hb : Below w.heap.size w w1) : BoxAt w1 b x := (hb.block b (blk_lt h)).trans h
theorem BoxAt.at_ {w : World} {b : Nat} {x : OpP} (h : BoxAt w b x) : w.cell? ⟨b, 1, none⟩ = some (.int .i64 x.at_) ∧ w.cell? ⟨b, 3, none⟩ = some (.slice x.A1 x.bs.length x.c1) := ⟨blk_cell h rfl, blk_cell h rfl⟩
end Go.Proofs.YtbfogcckbhkciaaGreat.Hand
namespace Go.Proofs.YtbfogcckbhkciaaGreat.Hand
set_option linter.unusedVariables false
set_option linter.unusedSimpArgs false
open Go.RowKit Go.Maps Go.Proofs.YtbfogcckbhkciaaGreatW.PrintWords Go.Proofs.YtbfogcckbhkciaaGreatW.PrintLast Go.Proofs.YtbfogcckbhkciaaGreatW.PrintMore Go.Proofs.YtbfogcckbhkciaaGreat.PHandRP
set_option linter.unusedVariables false
set_option linter.unusedSimpArgs false
def wdS (d : Dev) (k : Nat) : S94 := ⟨strOfNums (word d.B k), strOfNums ((d.S k).getD (word d.B k)), (d.S k).isSome, d.F k⟩
def wdL (d : Dev) (n : Nat) : List S94 := (List.range n).map (wdS d)
theorem wdL_length (d : Dev) (n : Nat) : (wdL d n).length = n := by simp [wdL]
theorem wdL_get {d : Dev} {n j : Nat} (h : j < n) : (wdL d n)[j]? = some (wdS d j) := by simp [wdL, h]
theorem wdL_rd {d : Dev} {n j : Nat} (h : j < n) : rd_T94 (wdL d n) (j : Int) = wdS d j := by
  rw [rd_T94, Int.toNat_natCast, List.getD_eq_getElem?_getD, wdL_get h]
  rfl
theorem wdL_congr {d d' : Dev} {n : Nat} (h : ∀ k, k < n → wdS d k = wdS d' k) : wdL d n = wdL d' n := List.map_congr_left (fun k hk => h k (List.mem_range.1 hk))
theorem wrap_suc {j n : Nat} (h : j < n) (hn : n ≤ 8192) : wrap64 ((j : Int) + 1) = ((j + 1 : Nat) : Int) := by rw [IntWalk.wrap64_in _ (by omega)]; omega
theorem take_word {B : List Int} {j : Nat} : B.take (8 * j) ++ word B j = B.take (8 * (j + 1)) := by
  rw [word, cut, show 8 * (j + 1) = 8 * j + 8 by omega, List.take_add]
theorem r3bytes_f {d : Dev} {n : Nat} (hl : d.B.length = 8 * n) (hn : n ≤ 8192) : ∀ m j, m = n - j → j ≤ n → ecdysisref03_Bytes.l0 (m + 1) (wdL d n) (strOfNums (d.B.take (8 * j))) (j : Int) = some (strOfNums d.B)
  | 0, j, hm, hj => by
    obtain rfl : j = n := by omega
    rw [ecdysisref03_Bytes.l0, if_neg (by rw [wdL_length]; omega), List.take_of_length_le (by omega)]
  | m + 1, j, hm, hj => by
    have h1 : (word d.B j).length = 8 := word_length (by omega)
    have h2 : (d.B.take (8 * j)).length = 8 * j := by rw [List.length_take]; omega
    rw [ecdysisref03_Bytes.l0, if_pos (by rw [wdL_length]; omega), if_pos (by omega), wdL_rd (by omega), if_pos (by simp only [wdS, strOfNums_size, h1, h2]; omega), wrap_suc (n := n) (by omega) hn]
    simp only [wdS]
    rw [str_app, take_word]
    exact r3bytes_f hl hn m (j + 1) (by omega) (by omega)
theorem r3loose_f {d : Dev} {n : Nat} (hn : n ≤ 8192) : ∀ m j, m = n - j → j ≤ n →
    ecdysisref03_Loose.l0 (m + 1) (wdL d n) (((List.range j).filter fun k => (d.S k).isSome).map fun (k : Nat) => (k : Int)) (j : Int) = some (((List.range n).filter fun k => (d.S k).isSome).map fun (k : Nat) => (k : Int))
  | 0, j, hm, hj => by
    obtain rfl : j = n := by omega
    rw [ecdysisref03_Loose.l0, if_neg (by rw [wdL_length]; omega)]
  | m + 1, j, hm, hj => by
    have hlen : (((List.range j).filter fun k => (d.S k).isSome).map fun (k : Nat) => (k : Int)).length ≤ j := by
      rw [List.length_map]
      exact Nat.le_trans (List.length_filter_le _ _) (by simp)
    have ih := r3loose_f (d := d) hn m (j + 1) (by omega) (by omega)
    rw [List.range_succ, List.filter_append, List.map_append] at ih
    rw [ecdysisref03_Loose.l0, if_pos (by rw [wdL_length]; omega), if_pos (by omega), wdL_rd (by omega), wrap_suc (n := n) (by omega) hn]
    by_cases hs : (d.S j).isSome = true
    · rw [if_pos (by exact hs), if_pos (by omega)]
      simpa [hs] using ih
    · rw [if_neg (by exact hs)]
      simpa [hs] using ih
theorem r3inside_f {d : Dev} {n : Nat} (hl : d.B.length = 8 * n) (hn : n ≤ 8192) (a m : Int) : ecdysisref03_Inside.f (wdL d n) a m = some (insE d.B.length a m) := by
  rw [ecdysisref03_Inside.f, wdL_length, IntWalk.wrap64_in (8 * (n : Int)) (by omega), insE, hl]
  by_cases h1 : m < 0
  · rw [if_pos h1, if_pos h1]
  · rw [if_neg h1, if_neg h1]
    by_cases h2 : a < 0
    · rw [if_pos h2, if_pos (.inl h2)]
    · rw [if_neg h2]
      by_cases h3 : a > 8 * n
      · rw [if_pos h3, if_pos (by omega)]
      · rw [if_neg h3, IntWalk.wrap64_in _ (by omega)]
        by_cases h4 : m > 8 * n - a
        · rw [if_pos h4, if_pos (by omega)]
        · rw [if_neg h4, if_neg (by omega)]
theorem r3has_f {l : List Int} (hl : l.length ≤ 9223372036854775807) (x : Int) : ∀ m j, m = l.length - j → j ≤ l.length → (∀ i, i < j → rd l i ≠ x) → ecdysisref03_has.l0 (m + 1) l x (j : Int) = some (decide (x ∈ l))
  | 0, j, hm, hj, ho => by
    obtain rfl : j = l.length := by omega
    rw [ecdysisref03_has.l0, if_neg (by omega)]
    refine congrArg some (decide_eq_false (fun hx => ?_)).symm
    obtain ⟨i, hi, e⟩ := List.getElem_of_mem hx
    refine ho i hi ?_
    rw [rd, Int.toNat_natCast, List.getD_eq_getElem?_getD, List.getElem?_eq_getElem hi]
    exact e
  | m + 1, j, hm, hj, ho => by
    rw [ecdysisref03_has.l0, if_pos (by omega), if_pos (by omega)]
    by_cases he : rd l (j : Int) = x
    · rw [if_pos he]
      refine congrArg some (decide_eq_true ?_).symm
      rw [← he, rd, Int.toNat_natCast, List.getD_eq_getElem?_getD, List.getElem?_eq_getElem (by omega)]
      exact List.getElem_mem _
    · rw [if_neg he, IntWalk.wrap64_in _ (by omega), show ((j : Int) + 1) = ((j + 1 : Nat) : Int) by omega]
      refine r3has_f hl x m (j + 1) (by omega) (by omega) (fun i hi => ?_)
      by_cases h : i = j
      · rw [h]; exact he
      · exact ho i (by omega)
theorem r3new_l {B : List Int} {n : Nat} (hl : B.length = 8 * n) (hn : n ≤ 8192) : ∀ m j, m = n - j → j ≤ n → ecdysisref03_New.l0 (m + 1) (strOfNums B) (wdL (Dev.of B) j) ((8 * j : Nat) : Int) = some (wdL (Dev.of B) n, true)
  | 0, j, hm, hj => by
    obtain rfl : j = n := by omega
    rw [ecdysisref03_New.l0, if_neg (by rw [strOfNums_size]; omega)]
  | m + 1, j, hm, hj => by
    have hw : wrap64 (((8 * j : Nat) : Int) + 8) = ((8 * (j + 1) : Nat) : Int) := by rw [IntWalk.wrap64_in _ (by omega)]; omega
    have hx : (strOfNums B).extract (((8 * j : Nat) : Int)).toNat (((8 * (j + 1) : Nat) : Int)).toNat = strOfNums (word B j) := by
      rw [str_extract, Int.toNat_natCast, Int.toNat_natCast, word, cut, show 8 * (j + 1) = 8 * j + 8 by omega, List.drop_take, show 8 * j + 8 - 8 * j = 8 by omega]
    rw [ecdysisref03_New.l0, hw, if_pos (by rw [strOfNums_size]; omega), if_pos (by omega), if_pos (by omega), if_pos (by rw [strOfNums_size]; omega), wdL_length, if_pos (by omega), hx]
    have := r3new_l hl hn m (j + 1) (by omega) (by omega)
    rw [wdL, List.range_succ, List.map_append] at this
    exact this
theorem word_set {B : List Int} {a j : Nat} {x : Int} (ha : a < B.length) : word (B.set a x) j = if j = a / 8 then (word B j).set (a % 8) x else word B j := by
  apply List.ext_getElem?
  intro i
  rw [word, cut, word, cut]
  by_cases hi : i < 8
  · rw [List.getElem?_take_of_lt hi, List.getElem?_drop]
    by_cases hj : j = a / 8
    · rw [if_pos hj]
      by_cases he : a = 8 * j + i
      · rw [← he, List.getElem?_set_self ha, show a % 8 = i by omega, List.getElem?_set_self (by rw [List.length_take, List.length_drop]; omega)]
      · rw [List.getElem?_set_ne he, List.getElem?_set_ne (by omega), List.getElem?_take_of_lt hi, List.getElem?_drop]
    · rw [if_neg hj, List.getElem?_set_ne (by omega), List.getElem?_take_of_lt hi, List.getElem?_drop]
  · rw [List.getElem?_take_eq_none (by omega)]
    split
    · rw [List.getElem?_set, if_neg (by omega), List.getElem?_take_eq_none (by omega)]
    · rw [List.getElem?_take_eq_none (by omega)]
theorem hit_one (a j : Nat) : hitB a 1 j = decide (j = a / 8) := by
  rw [hitB]
  exact decide_eq_decide.2 (by omega)
theorem write_one {d : Dev} {a : Nat} {x : Int} (ha : a < d.B.length) (j : Nat) : wdS (d.write a [x]) j = if j = a / 8 then ⟨strOfNums ((word d.B j).set (a % 8) x), strOfNums ((d.S j).getD (word d.B j)), true, false⟩ else wdS d j := by
  have hB : (d.write a [x]).B = d.B.set a x := by rw [Dev.write, List.set_eq_take_append_cons_drop, if_pos ha]; rfl
  have hS : (d.write a [x]).S j = if j = a / 8 then some ((d.S j).getD (word d.B j)) else d.S j := by
    simp only [Dev.write, List.length_singleton, hit_one, decide_eq_true_eq]
  have hF : (d.write a [x]).F j = (d.F j && !decide (j = a / 8)) := by simp only [Dev.write, List.length_singleton, hit_one]
  rw [wdS, hB, hS, hF, word_set ha]
  by_cases hj : j = a / 8
  · simp [hj]
  · simp [hj, wdS]
theorem r3write_f {d : Dev} {n : Nat} (hl : d.B.length = 8 * n) (hn : n ≤ 8192) {a : Nat} (ha : a < 8 * n) (x : Int) : ecdysisref03_write.f (wdL d n) (a : Int) x = some (wdL (d.write a [x]) n) := by
  have hw : wrap64 (Int.tdiv (a : Int) 8) = ((a / 8 : Nat) : Int) := by
    rw [Int.tdiv_eq_ediv_of_nonneg (by omega), IntWalk.wrap64_in _ (by omega)]
    omega
  have hr : Int.tmod (a : Int) 8 = ((a % 8 : Nat) : Int) := by
    rw [Int.tmod_eq_emod_of_nonneg (by omega)]
    omega
  have hr1 : wrap64 (((a % 8 : Nat) : Int) + 1) = ((a % 8 + 1 : Nat) : Int) := by rw [IntWalk.wrap64_in _ (by omega)]; omega
  have h8 : (word d.B (a / 8)).length = 8 := word_length (by omega)
  rw [ecdysisref03_write.f]
  simp only [Option.bind_some, hw, hr, hr1, wdL_rd (d := d) (n := n) (j := a / 8) (by omega), wdS, wdL_length, List.nil_append, List.length_nil, Int.toNat_natCast, str_extract, str_app, strOfNums_size, h8]
  rw [if_pos (by omega), if_pos (by omega), if_pos (by omega), if_pos (by omega), if_pos (by omega), if_pos (by simp; omega), if_pos (by omega), if_pos (by omega), if_pos (by simp; omega), if_pos (by omega)]
  refine congrArg some ?_
  apply List.ext_getElem?
  intro j
  by_cases hj : j < n
  · rw [wdL_get hj, write_one (by omega)]
    by_cases he : j = a / 8
    · rw [if_pos he, he, List.getElem?_set_self (by rw [wdL_length]; omega)]
      refine congrArg some ?_
      have e1 : ((word d.B (a / 8)).take (a % 8)).drop 0 ++ [x] ++ ((word d.B (a / 8)).take 8).drop (a % 8 + 1) = (word d.B (a / 8)).set (a % 8) x := by
        rw [List.set_eq_take_append_cons_drop, if_pos (by omega), List.drop_zero, List.take_of_length_le (l := word d.B (a / 8)) (i := 8) (by omega), List.append_assoc]
        rfl
      rw [e1]
    · rw [if_neg he, List.getElem?_set_ne (by omega), wdL_get hj]
  · rw [List.getElem?_eq_none (by rw [List.length_set, wdL_length]; omega), List.getElem?_eq_none (by rw [wdL_length]; omega)]
theorem write_nil (d : Dev) (a n : Nat) : wdL (d.write a []) n = wdL d n := by
  refine wdL_congr (fun k hk => ?_)
  have hB : (d.write a []).B = d.B := by simp [Dev.write]
  have hh : hitB a 0 k = false := by rw [hitB]; exact decide_eq_false (by omega)
  simp [wdS, hB, Dev.write, hh]
theorem word_miss {B l : List Int} {a k : Nat} (ha : a + l.length ≤ B.length) (h : 8 * k + 8 ≤ a ∨ a + l.length ≤ 8 * k) : word (B.take a ++ (l ++ B.drop (a + l.length))) k = word B k := by
  apply List.ext_getElem?
  intro i
  rw [word, cut, word, cut]
  by_cases hi : i < 8
  · rw [List.getElem?_take_of_lt hi, List.getElem?_take_of_lt hi, List.getElem?_drop, List.getElem?_drop]
    rcases h with h | h
    · rw [List.getElem?_append_left (by rw [List.length_take]; omega), List.getElem?_take_of_lt (by omega)]
    · rw [List.getElem?_append_right (by rw [List.length_take]; omega), List.length_take, Nat.min_eq_left (by omega), List.getElem?_append_right (by omega), List.getElem?_drop]
      congr 1
      omega
  · rw [List.getElem?_take_eq_none (by omega), List.getElem?_take_eq_none (by omega)]
theorem hit_snoc (a m k : Nat) : hitB a (m + 1) k = (hitB a m k || decide (k = (a + m) / 8)) := by
  rw [hitB, hitB, ← Bool.decide_or]
  exact decide_eq_decide.2 (by omega)
theorem write_snoc {d : Dev} {a n : Nat} {l : List Int} {x : Int} (hl : d.B.length = 8 * n) (h : a + l.length < d.B.length) : wdL ((d.write a l).write (a + l.length) [x]) n = wdL (d.write a (l ++ [x])) n := by
  refine wdL_congr (fun k hk => ?_)
  have hP : (d.B.take a ++ l).length = a + l.length := by rw [List.length_append, List.length_take]; omega
  have hB : ((d.write a l).write (a + l.length) [x]).B = (d.write a (l ++ [x])).B := by
    simp only [Dev.write, List.length_append, List.length_singleton]
    rw [← List.append_assoc (d.B.take a) l, List.take_left' hP, ← List.drop_drop (i := 1) (j := a + l.length), List.drop_left' hP, List.drop_drop]
    simp only [List.append_assoc]
    rw [Nat.add_assoc a]
  have e1 := hit_one (a + l.length) k
  have e2 := hit_snoc a l.length k
  have hS : ((d.write a l).write (a + l.length) [x]).S k = (d.write a (l ++ [x])).S k := by
    simp only [Dev.write, List.length_append, List.length_singleton, e1, e2, Bool.or_eq_true, decide_eq_true_eq]
    by_cases h1 : hitB a l.length k = true
    · by_cases h2 : k = (a + l.length) / 8
      · rw [if_pos h2, if_pos h1, if_pos (.inl h1)]
        rfl
      · rw [if_neg h2, if_pos h1, if_pos (.inl h1)]
    · by_cases h2 : k = (a + l.length) / 8
      · rw [if_pos h2, if_neg h1, if_pos (.inr h2)]
        have hm : word (d.B.take a ++ (l ++ d.B.drop (a + l.length))) k = word d.B k := by
          by_cases h0 : l = []
          · subst h0
            simp
          · have := List.length_pos_iff.2 h0
            rw [hitB, decide_eq_true_eq] at h1
            exact word_miss (by omega) (by omega)
        rw [hm]
      · rw [if_neg h2, if_neg h1, if_neg (fun h => h.elim h1 h2)]
  have hF : ((d.write a l).write (a + l.length) [x]).F k = (d.write a (l ++ [x])).F k := by
    simp only [Dev.write, List.length_append, List.length_singleton, e1, e2, Bool.not_or, Bool.and_assoc]
  simp [wdS, hB, hS, hF]
end Go.Proofs.YtbfogcckbhkciaaGreat.Hand
