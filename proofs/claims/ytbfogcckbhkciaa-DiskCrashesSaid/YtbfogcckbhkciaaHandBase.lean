/- The frame of a call: outside the blocks of S nothing that was there has changed. -/
import Derived.Below
import Derived.Deep.Draws
import Derived.OneCell
namespace Go.Proofs.Ytbfogcckbhkciaa.Hand
open Go.RowKit

/-- Outside the blocks of S all that lay in w lies in w' as it was. -/
structure Fr (S : Nat → Prop) (w w' : World) : Prop where
  os : w'.os = w.os
  tape : w'.tape = w.tape
  output : w'.output = w.output
  size : w.heap.size ≤ w'.heap.size
  block : ∀ k, k < w.heap.size → ¬ S k → w'.heap[k]? = w.heap[k]?

section
variable {S T : Nat → Prop} {w w1 w2 : World}
theorem Fr.refl (S : Nat → Prop) (w : World) : Fr S w w := ⟨rfl, rfl, rfl, Nat.le_refl _, fun _ _ _ => rfl⟩
theorem Fr.trans (h : Fr S w w1) (k : Fr T w1 w2) (hs : ∀ b, T b → b < w.heap.size → S b) : Fr S w w2 :=
  ⟨k.os.trans h.os, k.tape.trans h.tape, k.output.trans h.output, Nat.le_trans h.size k.size, fun b hb hn => (k.block b (Nat.lt_of_lt_of_le hb h.size) (fun ht => hn (hs b ht hb))).trans (h.block b hb hn)⟩
theorem Fr.trans' (h : Fr S w w1) (k : Fr S w1 w2) : Fr S w w2 := h.trans k (fun _ hb _ => hb)
theorem Fr.mono (h : Fr S w w1) (hs : ∀ b, S b → T b) : Fr T w w1 := ⟨h.os, h.tape, h.output, h.size, fun b hb hn => h.block b hb (fun hs' => hn (hs b hs'))⟩
theorem Fr.of_below (h : Below w.heap.size w w1) (S : Nat → Prop) : Fr S w w1 := ⟨h.os, h.tape, h.output, h.size, fun b hb _ => h.block b hb⟩
theorem Fr.below (h : Fr S w w1) (B : Nat) (hB : B ≤ w.heap.size) (hS : ∀ b, S b → B ≤ b) : Below B w w1 := ⟨h.os, h.tape, h.output, h.size, fun b hb => h.block b (Nat.lt_of_lt_of_le hb hB) (fun hs => by have := hS b hs; omega)⟩
theorem Fr.alloc (h : Fr S w w1) (o : Obj) : Fr S w (w1.alloc o) := h.trans (Fr.of_below ((Below.refl _ w1).alloc (Nat.le_refl _) o) (fun _ => False)) (fun _ hf _ => hf.elim)
theorem Fr.drew (h : Fr S w w1) : Fr S w w1.drew := ⟨h.os, h.tape, h.output, h.size, h.block⟩
theorem Fr.drewN (h : Fr S w w1) (n : Nat) : Fr S w (w1.drewN n) := ⟨h.os, h.tape, h.output, h.size, h.block⟩
theorem Fr.setCell (h : Fr S w w1) {p : Addr} (hp : S p.block ∨ w.heap.size ≤ p.block) (u : Value) : Fr S w (w1.setCell p u) :=
  h.trans (T := fun b => b = p.block) ⟨rfl, rfl, rfl, by simp [World.setCell], fun b _ hn => Below.heap_setCell _ _ _ _ hn⟩ (fun b hb hl => by subst hb; rcases hp with hp | hp; exact hp; omega)
theorem Fr.get (h : Fr S w w1) {b : Nat} {o : Obj} (hb : w.heap[b]? = some o) (hn : ¬ S b) : w1.heap[b]? = some o := (h.block b (Array.getElem?_eq_some_iff.1 hb).1 hn).trans hb
theorem Fr.grown {row : Option Nat} (h : Fr S w w1) (hg : w1.grownBy w2 row) (hr : ∀ k, row = some k → S k ∨ w.heap.size ≤ k) : Fr S w w2 :=
  h.trans (T := fun b => row = some b) ⟨hg.os, hg.tape, hg.output, hg.size, fun b hb hn => hg.block b hb (fun e => hn e.symm)⟩ (fun b hb hl => by rcases hr b hb with h | h; exact h; omega)
theorem Fr.then_below (h : Fr S w w1) (hb : Below w1.heap.size w1 w2) : Fr S w w2 := h.trans (Fr.of_below hb (fun _ => False)) (fun _ hf _ => hf.elim)
end
end Go.Proofs.Ytbfogcckbhkciaa.Hand
