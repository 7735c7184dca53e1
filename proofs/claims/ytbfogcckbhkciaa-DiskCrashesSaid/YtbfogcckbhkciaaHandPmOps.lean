/- Arguments that are scripts of calls on a device, a call, or a row of numbers. -/
import Derived.Test.YtbfogcckbhkciaaHandPm8
import Derived.Deep.Slices
import Derived.ChangeSame
import Derived.Lib.SmallJoins
import Derived.OpenShut
namespace Go.Proofs.Ytbfogcckbhkciaa.Hand
open Go.RowKit Go.ChangeShapes Go.WideShapes Go.ChangeAt Go.Proofs.YtbfogcckbhkciaaW.PrintWords
set_option linter.unusedVariables false

theorem open_i64s {H : Type} {enc : TypeId × Value → H} {W : World} {spare : Nat → Bool} {held : Bool} {a : Option Addr} {len cap : Nat} {n : Nat} {y : DataW H × List MemPlace}
    (hf : DataW.trod enc Try.prog W 0 spare held n 24 [.slice a len cap] = some y) : ∃ l : List Int, len = l.length ∧ ReadsInt W .i64 a l.length l := by
  rcases open_ints Try.underlying24 Try.underlying3 (by kernel_rfl) hf with ⟨hcs, _⟩ | ⟨x, l, c, zs, hcs, _, hl, hm, hz, _, hcell, hwz⟩
  · simp at hcs
    obtain ⟨rfl, rfl, rfl⟩ := hcs
    exact ⟨[], rfl, ⟨rfl, by simp, fun h => absurd h (by simp)⟩⟩
  · simp at hcs
    obtain ⟨rfl, rfl, rfl⟩ := hcs
    have hz' : len ≤ zs.length := by rw [hz]; split <;> omega
    have hlen : (zs.take len).length = len := by rw [List.length_take]; omega
    refine ⟨zs.take len, hlen.symm, ⟨rfl, by rw [hlen]; simp only [maxLen] at hm; omega, fun _ => ⟨x, rfl, fun j hj => ?_⟩⟩⟩
    rw [hlen] at hj
    rw [hcell j (by omega)]
    congr 2
    rw [List.getD_eq_getElem?_getD, List.getD_eq_getElem?_getD, List.getElem?_take_of_lt hj]
theorem open_u8s {H : Type} {enc : TypeId × Value → H} {W : World} {spare : Nat → Bool} {held : Bool} {a : Option Addr} {len cap : Nat} {n : Nat} {y : DataW H × List MemPlace}
    (hf : DataW.trod enc Try.prog W 0 spare held n 23 [.slice a len cap] = some y) : ∃ l : List Int, len = l.length ∧ ReadsInt W .u8 a l.length l ∧ Bys l ∧ len ≤ cap := by
  rcases open_ints Try.underlying23 Try.underlying5 (by kernel_rfl) hf with ⟨hcs, _⟩ | ⟨x, l, c, zs, hcs, _, hl, hm, hz, _, hcell, hwz⟩
  · simp at hcs
    obtain ⟨rfl, rfl, rfl⟩ := hcs
    exact ⟨[], rfl, ⟨rfl, by simp, fun h => absurd h (by simp)⟩, fun x hx => absurd hx (by simp), Nat.le_refl _⟩
  · simp at hcs
    obtain ⟨rfl, rfl, rfl⟩ := hcs
    have hz' : len ≤ zs.length := by rw [hz]; split <;> omega
    have hlen : (zs.take len).length = len := by rw [List.length_take]; omega
    refine ⟨zs.take len, hlen.symm, ⟨rfl, by rw [hlen]; simp only [maxLen] at hm; omega, fun _ => ⟨x, rfl, fun j hj => ?_⟩⟩, fun n hn => ?_, hl⟩
    · rw [hlen] at hj
      rw [hcell j (by omega)]
      congr 2
      rw [List.getD_eq_getElem?_getD, List.getD_eq_getElem?_getD, List.getElem?_take_of_lt hj]
    · have := hwz n (List.mem_of_mem_take hn)
      simp only [Lit.wf, IntKind.min, IntKind.max, IntKind.signed, IntKind.bits, Bool.and_eq_true] at this
      simp at this
      omega
theorem list5 {α : Type} {l : List α} (h : l.length = 5) : ∃ a b c d e, l = [a, b, c, d, e] := by
  match l, h with
  | [a, b, c, d, e], _ => exact ⟨a, b, c, d, e, rfl⟩
theorem okSlice {H : Type} {enc : TypeId × Value → H} {W : World} {spare : Nat → Bool} {held : Bool} {t e : TypeId} (ht : Try.prog.underlying t = some (.slice e)) {n : Nat} {v : Value} {y : DataW H × List MemPlace}
    (hf : DataW.trod enc Try.prog W 0 spare held n t [v] = some y) : ∃ a len cap, v = .slice a len cap := by
  rcases Go.Deep.open_slice ht hf with ⟨hcs, _⟩ | ⟨a, l, c, m, n, D, Pl, hcs, _⟩
  · exact ⟨none, 0, 0, by simpa using hcs⟩
  · exact ⟨some a, l, c, by simpa using hcs⟩
theorem po_cells {H : Type} {enc : TypeId × Value → H} {w : World} {spare : Nat → Bool} {held : Bool} {n : Nat} {cs : List Value} {y : DataW H × List MemPlace} (h : DataW.trod enc Try.prog w 0 spare held n 26 cs = some y) : ∃ x : OpP, cs = encPo x ∧ WfPo w x := by
  obtain ⟨xs, m, _, rfl, hlen, hxs, hf⟩ := DataW.trod_struct Try.underlying26 h
  obtain ⟨a, b, c, d, e, rfl⟩ := list5 (hlen.trans (show Try.prog.cellsOf 26 = 5 by kernel_rfl))
  have h0 : DataW.trod enc Try.prog w 0 spare held m 3 (([a, b, c, d, e].drop 0).take (Try.prog.cellsOf 3)) = xs[0]? := hf 0 _ rfl
  have h1 : DataW.trod enc Try.prog w 0 spare held m 3 (([a, b, c, d, e].drop 1).take (Try.prog.cellsOf 3)) = xs[1]? := hf 1 _ rfl
  have h2 : DataW.trod enc Try.prog w 0 spare held m 3 (([a, b, c, d, e].drop 2).take (Try.prog.cellsOf 3)) = xs[2]? := hf 2 _ rfl
  have h3 : DataW.trod enc Try.prog w 0 spare held m 23 (([a, b, c, d, e].drop 3).take (Try.prog.cellsOf 23)) = xs[3]? := hf 3 _ rfl
  have h4 : DataW.trod enc Try.prog w 0 spare held m 24 (([a, b, c, d, e].drop 4).take (Try.prog.cellsOf 24)) = xs[4]? := hf 4 _ rfl
  obtain ⟨y0, e0⟩ : ∃ y0, xs[0]? = some y0 := ⟨_, List.getElem?_eq_getElem (by rw [hxs]; decide)⟩
  obtain ⟨y1, e1⟩ : ∃ y0, xs[1]? = some y0 := ⟨_, List.getElem?_eq_getElem (by rw [hxs]; decide)⟩
  obtain ⟨y2, e2⟩ : ∃ y0, xs[2]? = some y0 := ⟨_, List.getElem?_eq_getElem (by rw [hxs]; decide)⟩
  obtain ⟨y3, e3⟩ : ∃ y0, xs[3]? = some y0 := ⟨_, List.getElem?_eq_getElem (by rw [hxs]; decide)⟩
  obtain ⟨y4, e4⟩ : ∃ y0, xs[4]? = some y0 := ⟨_, List.getElem?_eq_getElem (by rw [hxs]; decide)⟩
  rw [e0] at h0
  rw [e1] at h1
  rw [e2] at h2
  rw [e3] at h3
  rw [e4] at h4
  rw [show Try.prog.cellsOf 3 = 1 by kernel_rfl] at h0 h1 h2
  rw [show Try.prog.cellsOf 23 = 1 by kernel_rfl] at h3
  rw [show Try.prog.cellsOf 24 = 1 by kernel_rfl] at h4
  obtain ⟨q0, f0, _, w0⟩ := DataW.trod_int Try.underlying3 h0
  obtain ⟨q1, f1, _, w1⟩ := DataW.trod_int Try.underlying3 h1
  obtain ⟨q2, f2, _, w2⟩ := DataW.trod_int Try.underlying3 h2
  simp at f0 f1 f2
  subst f0 f1 f2
  simp only [List.drop_succ_cons, List.drop_zero, List.take_succ_cons, List.take_zero] at h3 h4
  obtain ⟨A1, n1, c1, rfl⟩ := okSlice Try.underlying23 h3
  obtain ⟨A2, n2, c2, rfl⟩ := okSlice Try.underlying24 h4
  obtain ⟨bs, rfl, rb, hb, hc⟩ := open_u8s h3
  obtain ⟨ks, rfl, rk⟩ := open_i64s h4
  exact ⟨⟨q0, q1, q2, A1, c1, bs, A2, c2, ks⟩, rfl, ⟨rb, hb, hc, rk, wf_i64 w0, wf_i64 w1, wf_i64 w2⟩⟩
theorem open_pops {H : Type} {enc : TypeId × Value → H} {w : World} {spare : Nat → Bool} {held : Bool} {A : Option Addr} {len cap : Nat} {d : DataW H} {ps : List MemPlace}
    (h : DataW.Trod enc Try.prog w 0 spare held 22 (.slice A len cap) d ps) : ∃ os : List OpP, len = os.length ∧ PoK.C w A os.length os ∧ ∀ o ∈ os, WfPo w o :=
  open_flat Try.underlying22 (by kernel_rfl) (fun n cs y h => po_cells h) h
set_option maxRecDepth 100000 in
/-- A call by value. -/
theorem open_po {H : Type} {enc : TypeId × Value → H} {w : World} {spare : Nat → Bool} {held : Bool} {r : Reach} {b0 : Nat} {v : Value} {d : DataW H} {ps : List MemPlace}
    (hv : Value.okWide Try.prog w r b0 26 v) (h : DataW.Trod enc Try.prog w 0 spare held 26 v d ps) : ∃ x : OpP, v = .agg (encPo x).toArray ∧ WfPo w x := by
  obtain ⟨cs, rfl, hsz⟩ := okWide_struct Try.underlying26 hv
  obtain ⟨fuel, hf⟩ := h
  obtain ⟨x, hx, hw⟩ := po_cells (cs := cs.toList) hf
  exact ⟨x, congrArg Value.agg (by rw [← hx]), hw⟩
theorem open_keep {H : Type} {enc : TypeId × Value → H} {W : World} {spare : Nat → Bool} {held : Bool} {a : Option Addr} {len cap : Nat} {d : DataW H} {ps : List MemPlace}
    (h : DataW.Trod enc Try.prog W 0 spare held 24 (.slice a len cap) d ps) : ∃ l : List Int, len = l.length ∧ ReadsInt W .i64 a l.length l := by
  obtain ⟨fuel, hf⟩ := h
  exact open_i64s hf
end Go.Proofs.Ytbfogcckbhkciaa.Hand
