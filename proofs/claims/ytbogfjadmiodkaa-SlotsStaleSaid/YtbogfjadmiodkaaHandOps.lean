/- An argument that is a script of calls. -/
import Derived.Test.YtbogfjadmiodkaaHandSlMade
import Derived.Test.YtbogfjadmiodkaaHandOpenF
import Derived.Deep.Strs
namespace Go.Proofs.Ytbogfjadmiodkaa.Hand
open Go.RowKit Go.Proofs.YtbogfjadmiodkaaW.PrintWords

theorem list4 {α : Type} {l : List α} (h : l.length = 4) : ∃ a b c d, l = [a, b, c, d] := by
  match l, h with
  | [a, b, c, d], _ => exact ⟨a, b, c, d, rfl⟩
theorem op_el {H : Type} {enc : TypeId × Value → H} {w : World} {spare : Nat → Bool} {held : Bool} : ∀ n cs y, DataW.trod enc Try.prog w 0 spare held n 47 cs = some y → ∃ x : OpT, cs = encOp x ∧ WfOp x := by
  intro n cs y h
  obtain ⟨y0, y1, y2, m, _, hlen, h0, h1, h2⟩ := Go.Deep.trod_struct3 Try.underlying47 h
  obtain ⟨a, b, c, d, rfl⟩ := list4 (hlen.trans (show Try.prog.cellsOf 47 = 4 by kernel_rfl))
  rw [show Try.prog.cellsOf 3 = 1 by kernel_rfl] at h0
  rw [show Try.prog.cellsOf 23 = 2 by kernel_rfl] at h1
  rw [show Try.prog.cellsOf 24 = 1 by kernel_rfl] at h2
  obtain ⟨z0, z1, m2, _, _, g0, g1⟩ := Go.ChangeShapes.trod_struct2 Try.underlying23 h1
  rw [show Try.prog.cellsOf 3 = 1 by kernel_rfl] at g0 g1
  obtain ⟨q, e0, _, _⟩ := DataW.trod_int Try.underlying3 h0
  obtain ⟨s, e1, _, _⟩ := DataW.trod_int Try.underlying3 g0
  obtain ⟨g, e2, _, _⟩ := DataW.trod_int Try.underlying3 g1
  obtain ⟨v, e3, _, w3⟩ := DataW.trod_int Try.underlying24 h2
  simp at e0 e1 e2 e3
  subst e0 e1 e2 e3
  exact ⟨(q, (s, g), v), rfl, wf_u64 w3⟩
theorem open_ops {H : Type} {enc : TypeId × Value → H} {w : World} {spare : Nat → Bool} {held : Bool} {A : Option Addr} {len cap : Nat} {d : DataW H} {ps : List MemPlace}
    (h : DataW.Trod enc Try.prog w 0 spare held 37 (.slice A len cap) d ps) : ∃ os : List OpT, len = os.length ∧ OpK.C w A os.length os ∧ ∀ o ∈ os, WfOp o :=
  open_flat Try.underlying37 (by kernel_rfl) op_el h
end Go.Proofs.Ytbogfjadmiodkaa.Hand
