/- copy(s[off:], ys) over a row of scalars of one's own: its cells from off on are ys then. -/
import Derived.Laws.CopyOwn
import Derived.Test.YtbfogcckbhkciaaWWords
import Derived.Test.YtbfogcckbhkciaaHandBase
namespace Go.Proofs.Ytbfogcckbhkciaa.Hand
open Go.RowKit Go.Proofs.YtbfogcckbhkciaaW.PrintWords
section
variable {P : Program} {ops : Array Oper} {rest : List Oper} {o : Oper} {a : Act} {Q : Exit → Act → World → Prop}

/-- At the builtin b with these operands, and nowhere else. -/
theorem gate_bi {b : Builtin} {xs : Array Operand} {ts : Array TypeId} {W : World} (_ho : o.op = .call { callee := .builtin b, args := xs, argTypes := ts }) (h : wpList P ops Q (o :: rest) a W) : wpList P ops Q (o :: rest) a W := h
/-- At the call of function f, and nowhere else. -/
theorem gate_fn {f : FuncId} {xs : Array Operand} {ts : Array TypeId} {W : World} (_ho : o.op = .call { callee := .value (.func f), args := xs, argTypes := ts }) (h : wpList P ops Q (o :: rest) a W) : wpList P ops Q (o :: rest) a W := h

theorem grown_setRow (W : World) (g : Nat) (cs : Array Value) : W.grownBy (W.setRow g cs) (some g) :=
  ⟨rfl, rfl, rfl, by simp [World.setRow], fun k hk hne => setRow_other W g k cs (fun e => hne (by rw [e]))⟩

theorem wpList_copy_at {α : Type} {enc : α → Value} {h1 : ∀ x, (enc x).oneCell' = true} (d0 : α) {W : World} (hgd : o.guard = none) (s x : Operand) (t t' e : TypeId)
    (ho : o.op = .call { callee := .builtin .copy, args := #[s, x], argTypes := #[t, t'] }) (ht : P.underlying t = some (.slice e)) (hinfo : (P.info? e).map (·.size) = some 1)
    (g cap off : Nat) (dp : Option Addr) (dl dc : Nat) (xs ys : List α) (A : Option Addr) (m c : Nat) (base : Nat) (ok : Nat → Prop) (hs : a.eval s = .slice dp dl dc) (hx : a.eval x = .slice A m c)
    (HO : (Kd.scalar enc h1).R e W base ok (.slice (some ⟨g, 0, none⟩) xs.length cap) xs) (HR : (Kd.scalar enc h1).C W A m ys) (hoff : off + m ≤ xs.length) (hdl : m ≤ dl) (hdp : 0 < m → dp = some ⟨g, off, none⟩)
    (h : ∀ w1, (Kd.scalar enc h1).R e w1 base ok (.slice (some ⟨g, 0, none⟩) xs.length cap) (xs.take off ++ (ys ++ xs.drop (off + m))) → W.grownBy w1 (some g) → wpList P ops Q rest (a.put o.dst (.int .i64 (m : Int))) w1) :
    wpList P ops Q (o :: rest) a W := by
  have hR := Kd.reads_of_C (enc := enc) (d := d0) (h1 := h1) HR
  have hm : ys.length = m := hR.1
  rcases Nat.eq_zero_or_pos m with h0 | h0
  · subst h0
    obtain rfl : ys = [] := List.eq_nil_of_length_eq_zero hm
    refine wpList_copy_nothing hgd s x t t' ho e ht hinfo dp A dl dc 0 c hs hx (by simp [Nat.min]) (h W ?_ ⟨rfl, rfl, rfl, Nat.le_refl _, fun _ _ _ => rfl⟩)
    simpa using HO
  · obtain ⟨hl, hrow⟩ := Kd.own_of_R HO
    rcases hrow with ⟨hv, _⟩ | ⟨g', cap', cur, hv, hbase, hg, hcap, hmax, hsz, htake⟩
    · cases hv
    injection hv with hv1 hv2 hv3
    injection hv1 with hv1
    injection hv1 with hv1
    subst hv1; subst hv3
    obtain ⟨ad, rfl, hc⟩ := hR.2.2 h0
    obtain rfl := hdp h0
    have hcs1 : cur.size = cap := by omega
    have hkl : (encs enc ys).length = m := by rw [encs_length, hm]
    have hmin : Nat.min m dl = m := Nat.min_eq_left hdl
    rw [Nat.mul_one] at htake
    refine wpList_copy_own hgd s x t t' ho e ht hinfo g off dl dc ad m c hs hx cur e hg (encs enc ys) (by rw [hkl, hmin]) ?_ (by rw [hkl, hcs1]; omega) (by intro u hu; simp only [encs, List.mem_map] at hu; obtain ⟨q, _, rfl⟩ := hu; exact h1 q) ?_
    · intro j u hu
      have hj : j < ys.length := by
        rcases Nat.lt_or_ge j ys.length with h | h
        · exact h
        · rw [List.getElem?_eq_none (by rw [encs_length]; exact h)] at hu
          cases hu
      rw [encs_get (d := d0) _ j hj] at hu
      rw [hc j (by omega), ← hu]
    · rw [hkl]
      have hgw := grown_setRow W g (cur.toList.take off ++ (encs enc ys ++ cur.toList.drop (off + m))).toArray
      refine h _ (Kd.R_of_own ?_ HO.1) hgw
      have hln : (xs.take off ++ (ys ++ xs.drop (off + m))).length = xs.length := by
        simp only [List.length_append, List.length_take, List.length_drop]
        omega
      rw [hln]
      refine ⟨by rw [encs_length, hln, Nat.mul_one], .inr ⟨g, cap, _, rfl, hbase, setRow_heap W g cur _ e (0, 0) hg, hcap, hmax, ?_, ?_⟩⟩
      · simp only [List.size_toArray, List.length_append, List.length_take, List.length_drop, hkl, Array.length_toList]
        omega
      · have hcl : cur.toList = encs enc xs ++ cur.toList.drop xs.length := by rw [← htake, List.take_append_drop]
        have e1 : cur.toList.take off = encs enc (xs.take off) := by
          rw [hcl, List.take_append_of_le_length (by rw [encs_length]; omega)]
          simp [encs, List.map_take]
        have e2 : cur.toList.drop (off + m) = encs enc (xs.drop (off + m)) ++ cur.toList.drop xs.length := by
          conv => lhs; rw [hcl]
          rw [List.drop_append_of_le_length (by rw [encs_length]; omega)]
          simp [encs, List.map_drop]
        rw [e1, e2, Nat.mul_one]
        have e3 : encs enc (xs.take off) ++ (encs enc ys ++ (encs enc (xs.drop (off + m)) ++ cur.toList.drop xs.length)) = encs enc (xs.take off ++ (ys ++ xs.drop (off + m))) ++ cur.toList.drop xs.length := by
          simp [encs]
        rw [e3, List.take_append_of_le_length (by rw [encs_length, hln]; exact Nat.le_refl _), List.take_of_length_le (by rw [encs_length, hln]; exact Nat.le_refl _)]
end
end Go.Proofs.Ytbfogcckbhkciaa.Hand
