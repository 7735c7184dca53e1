/- What the laws on devices share. -/
import Derived.Test.YtbfogcckbhkciaaHandPmAlive
namespace Go.Proofs.Ytbfogcckbhkciaa.Hand
open Go.RowKit Go.Maps Go.Proofs.YtbfogcckbhkciaaW.PrintWords
set_option linter.unusedVariables false
set_option linter.unusedSimpArgs false
/-- What made leaves, of a device. -/
def MadeE (w : World) (d : Dev) (e : Ending) (w' : World) : Prop :=
  (e = .returned (.tuple #[.pointer none, .bool false]) ∧ Below w.heap.size w w') ∨
  ∃ (p : Nat) (v : Value) (s f : Nat), e = .returned (.tuple #[.pointer (some ⟨p, 0, none⟩), .bool true]) ∧ HasD w' p v s f d ∧ w.heap.size ≤ p ∧ (∀ b, OwnD v s f b → w.heap.size ≤ b) ∧ Below w.heap.size w w'
theorem made_e (w : World) (A : Option Addr) (c : Nat) (os : List OpP) (ho : PoK.C w A os.length os) (hw : ∀ o ∈ os, WfPo w o) :
    Calls Try.prog 20 #[.int .i64 10, .slice A os.length c] w (MadeE w (runD dev10 os)) := made3_calls w A c os ho hw
theorem fence_B (d : Dev) : d.fence.B = d.B := rfl
theorem fences_loose (d : Dev) (h : d.B.length = 80) : looseM (d.flush 0 80).fence = [] := by
  rw [looseM, List.filter_eq_nil_iff.2 (fun k hk => ?_)]
  · rfl
  · have hk' : k < (d.flush 0 80).fence.B.length / 8 := List.mem_range.1 hk
    have : (d.flush 0 80).fence.B.length = 80 := h
    have hh : hitB 0 80 k = true := by simp [hitB]; omega
    simp only [Dev.fence, Dev.flush, hh, Bool.true_and]
    cases hs : d.S k <;> simp
theorem flush80_calls (w : World) (p : Nat) (v : Value) (s f : Nat) (d : Dev) (h : HasD w p v s f d) (hl : d.B.length = 80) :
    Calls Try.prog 25 #[.pointer (some ⟨p, 0, none⟩), .int .i64 0, .int .i64 80] w fun e w' => e = .returned (.int .i64 0) ∧ HasD w' p v s f (d.flush 0 80) ∧ Fr (OwnD v s f) w w' :=
  flush_calls w p v s f d 0 80 h (by rw [hl]; decide +kernel)
theorem conv_n {w : World} {A : Option Addr} {n c : Nat} {xs : List Int} (h : ReadsInt w .u8 A n xs) : (convert 23 9 (.slice A n c)).run Try.prog w = .ok (.string (strOfNums xs)) w := by
  have hl := h.1
  subst hl
  exact conv_reads h
/-- A call that stands in a variable. -/
def BoxAt (w : World) (b : Nat) (x : OpP) : Prop := w.heap[b]? = some (.cells #[.int .i64 x.z, .int .i64 x.at_, .int .i64 x.long, .slice x.A1 x.bs.length x.c1, .slice x.A2 x.ks.length x.c2] 26 (0, 0))
def boxed (w : World) (x : OpP) : World := w.alloc (.cells #[.int .i64 x.z, .int .i64 x.at_, .int .i64 x.long, .slice x.A1 x.bs.length x.c1, .slice x.A2 x.ks.length x.c2] 26)
theorem boxed_at (w : World) (x : OpP) : BoxAt (boxed w x) w.heap.size x := heap_alloc_new w _
theorem boxed_below (w : World) (x : OpP) : Below w.heap.size w (boxed w x) := below_alloc (Below.refl _ _) _
theorem boxed_end {w w1 : World} {x : OpP} (h : Below (boxed w x).heap.size (boxed w x) w1) : Below w.heap.size w w1 := bel_step (boxed_below w x) h
theorem BoxAt.below {w w1 : World} {b : Nat} {x : OpP} (h : BoxAt w b x) (hb : Below w.heap.size w w1) : BoxAt w1 b x := (hb.block b (blk_lt h)).trans h
theorem BoxAt.at_ {w : World} {b : Nat} {x : OpP} (h : BoxAt w b x) : w.cell? ⟨b, 1, none⟩ = some (.int .i64 x.at_) ∧ w.cell? ⟨b, 3, none⟩ = some (.slice x.A1 x.bs.length x.c1) := ⟨blk_cell h rfl, blk_cell h rfl⟩
theorem wfs_below {w w1 : World} {os : List OpP} (h : ∀ o ∈ os, WfPo w o) (hb : Below w.heap.size w w1) : ∀ o ∈ os, WfPo w1 o := fun o ho => (h o ho).below hb
end Go.Proofs.Ytbfogcckbhkciaa.Hand
