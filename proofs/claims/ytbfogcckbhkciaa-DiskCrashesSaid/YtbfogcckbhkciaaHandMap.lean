/- Maps whose elements are any values: what a map's block holds, as a function of the key; the laws at the operations. -/
import Derived.Test.YtbfogcckbhkciaaHandMem
import Derived.Maps.OwnSet
import Derived.Maps.OwnOps
import Derived.Maps.RangeWalk
import Derived.Maps.Ext
namespace Go.Proofs.Ytbfogcckbhkciaa.Hand
open Go.RowKit Go.Maps Go.Proofs.YtbfogcckbhkciaaW.PrintWords

/-- An element is read as itself. -/
def heldR (v : Value) : Option (DataW Value × List MemPlace) := some (.held v, [])
/-- What a datum says of each key. -/
def Fits (D : DataW Value) (f : Lit → Option Value) : Prop := ∀ kl, has D kl = (f kl).isSome ∧ ∀ v, f kl = some v → ∀ z, D.atKey kl z = .held v
/-- The block holds a map of these entries. -/
def MapF (P : Program) (k : TypeId) (w : World) (b : Nat) (f : Lit → Option Value) : Prop := ∃ D, w.ownsMap P k heldR b (Maps.size D) D ∧ Fits D f
def updF (f : Lit → Option Value) (kl : Lit) (v : Value) : Lit → Option Value := fun x => if x.sameKey kl then some v else f x
def delF (f : Lit → Option Value) (kl : Lit) : Lit → Option Value := fun x => if x.sameKey kl then none else f x
/-- So many keys at most. -/
def RoomF (f : Lit → Option Value) (n : Nat) : Prop := ∃ L : List Lit, L.length ≤ n ∧ ∀ kl, (f kl).isSome = true → kl ∈ L

theorem nodup_len {α : Type} (xs : List α) : ∀ L : List α, xs.Nodup → (∀ x ∈ xs, x ∈ L) → xs.length ≤ L.length := by
  classical
  induction xs with
  | nil => exact fun _ _ _ => Nat.zero_le _
  | cons x xs ih =>
    intro L hn hs
    have hx := hs x (List.mem_cons_self ..)
    obtain ⟨h1, h2⟩ := List.nodup_cons.1 hn
    have := ih (L.erase x) h2 (fun y hy => (List.mem_erase_of_ne (fun e => h1 (by rw [← e]; exact hy))).2 (hs y (List.mem_cons_of_mem _ hy)))
    rw [List.length_erase_of_mem hx] at this
    have hl := List.length_pos_of_mem hx
    simp only [List.length_cons]
    omega
section
variable {P : Program} {k : TypeId} {w w1 : World} {b : Nat} {f : Lit → Option Value}
theorem size_le_of_room (hk : Keyed P k) {D : DataW Value} {n m : Nat} (h : w.ownsMap P k heldR b n D) (hf : Fits D f) (hr : RoomF f m) : Maps.size D ≤ m := by
  obtain ⟨es, rfl, hp, hkey⟩ := h.entries hk
  obtain ⟨L, hL, hin⟩ := hr
  have hnd : (es.map (·.1)).Nodup := List.pairwise_map.2 hp
  have := nodup_len (es.map (·.1)) L hnd (fun x hx => by
    obtain ⟨p, hp1, rfl⟩ := List.mem_map.1 hx
    refine hin _ ?_
    rw [← (hf p.1).1, has_eq, List.any_eq_true]
    exact ⟨p, hp1, WideAt.sameKey_self (hkey p hp1)⟩)
  rw [List.length_map] at this
  exact Nat.le_trans this hL
theorem MapF.of_own {D : DataW Value} {n : Nat} (h : w.ownsMap P k heldR b n D) (hf : Fits D f) : MapF P k w b f := by
  refine ⟨D, ?_, hf⟩
  obtain ⟨es, clock, hb, F, hs, hD⟩ := h
  refine ⟨es, clock, hb, F, ?_, hD⟩
  rw [hD]
  simp [Maps.size, length_sorted]
theorem MapF.made (w : World) : MapF P k (w.alloc (.map #[] 0)) w.heap.size (fun _ => none) :=
  MapF.of_own (World.ownsMap_made w P k heldR) (fun kl => ⟨rfl, fun v h => by cases h⟩)
theorem MapF.lt (h : MapF P k w b f) : b < w.heap.size := by obtain ⟨D, h, _⟩ := h; exact h.lt
theorem MapF.kept {row : Option Nat} (h : MapF P k w b f) (hg : w.grownBy w1 row) (hne : some b ≠ row) : MapF P k w1 b f := by
  obtain ⟨D, h, hf⟩ := h
  exact ⟨D, h.kept hg hne, hf⟩
theorem MapF.same (h : MapF P k w b f) (hb : w1.heap[b]? = w.heap[b]?) : MapF P k w1 b f := by
  obtain ⟨D, ⟨es, clock, h1, h2⟩, hf⟩ := h
  exact ⟨D, ⟨es, clock, hb.trans h1, h2⟩, hf⟩
theorem MapF.fr {S : Nat → Prop} (h : MapF P k w b f) (hf : Fr S w w1) (hb : ¬ S b) : MapF P k w1 b f := h.same (hf.block b h.lt hb)
theorem MapF.below (h : MapF P k w b f) (hb : Below w.heap.size w w1) : MapF P k w1 b f := h.same (hb.block b h.lt)
theorem MapF.blk (h : MapF P k w b f) : ∃ es clock, w.heap[b]? = some (.map es clock) := by
  obtain ⟨D, ⟨es, clock, h1, _⟩, _⟩ := h
  exact ⟨es, clock, h1⟩
/-- A block of cells is no map's. -/
theorem MapF.ne_cells (h : MapF P k w b f) {p : Nat} {cs : Array Value} {t : TypeId} {fr : Nat × Nat} (hp : w.heap[p]? = some (.cells cs t fr)) : p ≠ b := by
  obtain ⟨es, clock, h1⟩ := h.blk
  intro e
  rw [e, h1] at hp
  cases hp
theorem Fits.isMap {D : DataW Value} {n : Nat} (h : w.ownsMap P k heldR b n D) : IsMap D := h.isMap
theorem Fits.put {D : DataW Value} (hD : IsMap D) (hf : Fits D f) {kl : Lit} (hk : WideAt.IsKeyLit kl) (v : Value) : Fits (D.put kl (.held v)) (updF f kl v) := by
  intro x
  by_cases hx : x = kl
  · subst hx
    simp only [updF, WideAt.sameKey_self hk, if_true]
    exact ⟨has_put_same hD hk _, fun u hu z => by injection hu with hu; subst hu; exact atKey_put_same hD hk _ _⟩
  · simp only [updF, sameKey_ne hx, if_false, Bool.false_eq_true]
    exact ⟨(has_put_other hx _).trans (hf x).1, fun u hu z => (atKey_put_other hx _ _).trans ((hf x).2 u hu z)⟩
theorem Fits.del {D : DataW Value} (hf : Fits D f) {kl : Lit} (hk : WideAt.IsKeyLit kl) : Fits (D.del kl) (delF f kl) := by
  intro x
  by_cases hx : x = kl
  · subst hx
    simp only [delF, WideAt.sameKey_self hk, if_true]
    exact ⟨has_del_same, fun u hu => by cases hu⟩
  · simp only [delF, sameKey_ne hx, if_false, Bool.false_eq_true]
    exact ⟨(has_del_other hx).trans (hf x).1, fun u hu z => (atKey_del_other hx _).trans ((hf x).2 u hu z)⟩
theorem Fits.congr {D : DataW Value} {g : Lit → Option Value} (hf : Fits D f) (h : ∀ kl, f kl = g kl) : Fits D g := fun kl => by rw [← h kl]; exact hf kl
theorem MapF.congr {g : Lit → Option Value} (hf : MapF P k w b f) (h : ∀ kl, f kl = g kl) : MapF P k w b g := by
  obtain ⟨D, h1, h2⟩ := hf
  exact ⟨D, h1, h2.congr h⟩
/-- What a look-up gives. -/
theorem MapF.look {t e : TypeId} (h : MapF P k w b f) (K : Keyed P k) (ht : P.underlying t = some (.map k e)) {z : Value} (hz : (zeroValue e).run P w = .ok z w) {key : Value} {kl : Lit} (hkey : keyOf P k key = some kl) :
    (Instr.lookup t (.map (some b)) key true).run P w = .ok (.tuple #[(f kl).getD z, .bool (f kl).isSome]) w := by
  obtain ⟨D, h, hf⟩ := h
  obtain ⟨v, ps, hrun, hv⟩ := h.look_ok K ht hz (zd := .held z) (zp := []) rfl hkey
  simp only [heldR, Option.some.injEq, Prod.mk.injEq] at hv
  rw [hrun, (hf kl).1]
  cases hx : f kl with
  | some u =>
    rw [(hf kl).2 u hx] at hv
    obtain ⟨hv, _⟩ := hv
    injection hv with hv
    rw [hv]
    rfl
  | none =>
    have hh : has D kl = false := by rw [(hf kl).1, hx]; rfl
    rw [atKey_of_not_has hh] at hv
    obtain ⟨hv, _⟩ := hv
    injection hv with hv
    rw [hv]
    rfl
theorem MapF.look1 {t e : TypeId} (h : MapF P k w b f) (K : Keyed P k) (ht : P.underlying t = some (.map k e)) {z : Value} (hz : (zeroValue e).run P w = .ok z w) {key : Value} {kl : Lit} (hkey : keyOf P k key = some kl) :
    (Instr.lookup t (.map (some b)) key false).run P w = .ok ((f kl).getD z) w := by
  obtain ⟨D, h, hf⟩ := h
  obtain ⟨v, ps, hrun, hv⟩ := h.lookup K ht hz (zd := .held z) (zp := []) rfl hkey
  simp only [heldR, Option.some.injEq, Prod.mk.injEq] at hv
  rw [hrun]
  cases hx : f kl with
  | some u =>
    rw [(hf kl).2 u hx] at hv
    obtain ⟨hv, _⟩ := hv
    injection hv with hv
    rw [hv]
    rfl
  | none =>
    have hh : has D kl = false := by rw [(hf kl).1, hx]; rfl
    rw [atKey_of_not_has hh] at hv
    obtain ⟨hv, _⟩ := hv
    injection hv with hv
    rw [hv]
    rfl
theorem MapF.upd {t e : TypeId} (h : MapF P k w b f) (K : Keyed P k) (ht : P.underlying t = some (.map k e)) {n : Nat} (hr : RoomF f n) (hn : n < maxLen) {key val : Value} {kl : Lit} (hkey : keyOf P k key = some kl) :
    ∃ w', (Instr.mapUpdate t (.map (some b)) key val).run P w = .ok () w' ∧ MapF P k w' b (updF f kl val) ∧ w.mapTurned w' b := by
  obtain ⟨D, h, hf⟩ := h
  obtain ⟨w', h1, h2, h3⟩ := h.store K ht (Nat.lt_of_le_of_lt (size_le_of_room K h hf hr) hn) (d := .held val) (ps := []) hkey rfl
  exact ⟨w', h1, MapF.of_own h2 (hf.put h.isMap (K.key hkey) val), h3⟩
theorem MapF.drop {t e : TypeId} (h : MapF P k w b f) (K : Keyed P k) (ht : P.underlying t = some (.map k e)) {key : Value} {kl : Lit} (hkey : keyOf P k key = some kl) (ty : TypeId) :
    ∃ w', (Builtin.delete_ #[t, k] ty #[.map (some b), key]).run P w = .ok (.tuple #[]) w' ∧ MapF P k w' b (delF f kl) ∧ w.mapTurned w' b := by
  obtain ⟨D, h, hf⟩ := h
  obtain ⟨w', h1, h2, h3⟩ := h.drop K ht hkey ty
  exact ⟨w', h1, MapF.of_own h2 (hf.del (K.key hkey)), h3⟩
theorem run_clear_map {t e : TypeId} (h : MapF P k w b f) (ht : P.underlying t = some (.map k e)) (ty : TypeId) :
    ∃ w', (Builtin.clear_ #[t] ty #[.map (some b)]).run P w = .ok (.tuple #[]) w' ∧ MapF P k w' b (fun _ => none) ∧ w.mapTurned w' b := by
  obtain ⟨D, ⟨es, clock, hb, F, hs, hD⟩, hf⟩ := h
  refine ⟨_, ?_, MapF.of_own (n := 0) (D := .map []) ⟨#[], clock, ChangeMaps.heap_setBlock_same hb _, ⟨by simp, MapKept.stamped_empty clock, by simp⟩, Nat.le_refl _, rfl⟩ (fun kl => ⟨rfl, fun v h => by cases h⟩), ⟨es, clock, #[], clock, hb, rfl⟩⟩
  simp [Builtin.clear_, run_underlying ht, MapKept.run_getObj_map hb, MapKept.run_setObj_map _ hb, Result.andThen, ChangeMaps.setBlock]
theorem _root_.Go.World.mapTurned.fr {S : Nat → Prop} (h : w.mapTurned w1 b) (hS : S b) : Fr S w w1 := by
  have hg := h.grown
  exact ⟨hg.os, hg.tape, hg.output, hg.size, fun i hi hn => hg.block i hi (fun e => hn (by injection e with e; rw [e]; exact hS))⟩
theorem _root_.Go.World.mapTurned.size_eq (h : w.mapTurned w1 b) : w1.heap.size = w.heap.size := by
  obtain ⟨es, clock, es', clock', hb, rfl⟩ := h
  simp [ChangeMaps.setBlock]
end
section
variable {P : Program} {w : World} {ops : Array Oper} {rest : List Oper} {o : Oper} {a : Act} {Q : Exit → Act → World → Prop} {k e : TypeId} {b : Nat} {f : Lit → Option Value}
/-- 'v, ok := m[k]'. -/
theorem wpList_look (hg : o.guard = none) (m x : Operand) (t : TypeId) (hop : o.op = Op.lookup t m x true) (K : Keyed P k) (ht : P.underlying t = some (.map k e)) {z : Value} (hz : (zeroValue e).run P w = .ok z w)
    (hm : a.eval m = .map (some b)) (hown : MapF P k w b f) (key : Value) (kl : Lit) (hx : a.eval x = key) (hkey : keyOf P k key = some kl) (r : Option Value) (hr : f kl = r)
    (hK : wpList P ops Q rest (a.put o.dst (.tuple #[r.getD z, .bool r.isSome])) w) : wpList P ops Q (o :: rest) a w := by
  subst hr
  refine wpList_plain hg fun K' hK' => ?_
  have hrun := hown.look K ht hz hkey
  unfold Oper.wp
  simp [execOp, hop, hm, hx, hrun, Result.andThen]
  exact hK' _ _ hK
/-- 'm[k]'. -/
theorem wpList_look1 (hg : o.guard = none) (m x : Operand) (t : TypeId) (hop : o.op = Op.lookup t m x false) (K : Keyed P k) (ht : P.underlying t = some (.map k e)) {z : Value} (hz : (zeroValue e).run P w = .ok z w)
    (hm : a.eval m = .map (some b)) (hown : MapF P k w b f) (key : Value) (kl : Lit) (hx : a.eval x = key) (hkey : keyOf P k key = some kl) (r : Option Value) (hr : f kl = r)
    (hK : wpList P ops Q rest (a.put o.dst (r.getD z)) w) : wpList P ops Q (o :: rest) a w := by
  subst hr
  refine wpList_plain hg fun K' hK' => ?_
  have hrun := hown.look1 K ht hz hkey
  unfold Oper.wp
  simp [execOp, hop, hm, hx, hrun, Result.andThen]
  exact hK' _ _ hK
/-- 'm[k] = v'. -/
theorem wpList_upd (hg : o.guard = none) (m x v : Operand) (t : TypeId) (hop : o.op = Op.mapUpdate t m x v) (K : Keyed P k) (ht : P.underlying t = some (.map k e)) (n : Nat) (hn : n < maxLen)
    (hm : a.eval m = .map (some b)) (hown : MapF P k w b f) (hr : RoomF f n) (key val : Value) (kl : Lit) (hx : a.eval x = key) (hv : a.eval v = val) (hkey : keyOf P k key = some kl)
    (hK : ∀ w', MapF P k w' b (updF f kl val) → w.mapTurned w' b → wpList P ops Q rest (a.put o.dst undef) w') : wpList P ops Q (o :: rest) a w := by
  refine wpList_plain hg fun K' hK' => ?_
  obtain ⟨w', hrun, h1, h2⟩ := hown.upd K ht hr hn (val := val) hkey
  unfold Oper.wp
  simp [execOp, hop, hm, hx, hv, hrun, Result.andThen]
  exact hK' _ _ (hK w' h1 h2)
/-- 'delete(m, k)'. -/
theorem wpList_del (hg : o.guard = none) (m x : Operand) (t : TypeId) (hop : o.op = Op.call { callee := Callee.builtin Builtin.delete, args := #[m, x], argTypes := #[t, k] }) (K : Keyed P k) (ht : P.underlying t = some (.map k e))
    (hm : a.eval m = .map (some b)) (hown : MapF P k w b f) (key : Value) (kl : Lit) (hx : a.eval x = key) (hkey : keyOf P k key = some kl)
    (hK : ∀ w', MapF P k w' b (delF f kl) → w.mapTurned w' b → wpList P ops Q rest (a.put o.dst (.tuple #[])) w') : wpList P ops Q (o :: rest) a w := by
  refine wpList_plain hg fun K' hK' => ?_
  obtain ⟨w', hrun, h1, h2⟩ := hown.drop K ht hkey o.type
  unfold Oper.wp
  simp [execOp, hop, resolve, invoke, builtin, hm, hx, hrun, Result.andThen]
  exact hK' _ _ (hK w' h1 h2)
/-- 'clear(m)'. -/
theorem wpList_clear (hg : o.guard = none) (m : Operand) (t : TypeId) (hop : o.op = Op.call { callee := Callee.builtin Builtin.clear, args := #[m], argTypes := #[t] }) (ht : P.underlying t = some (.map k e))
    (hm : a.eval m = .map (some b)) (hown : MapF P k w b f)
    (hK : ∀ w', MapF P k w' b (fun _ => none) → w.mapTurned w' b → wpList P ops Q rest (a.put o.dst (.tuple #[])) w') : wpList P ops Q (o :: rest) a w := by
  refine wpList_plain hg fun K' hK' => ?_
  obtain ⟨w', hrun, h1, h2⟩ := run_clear_map hown ht o.type
  unfold Oper.wp
  simp [execOp, hop, resolve, invoke, builtin, hm, hrun, Result.andThen]
  exact hK' _ _ (hK w' h1 h2)
end
end Go.Proofs.Ytbfogcckbhkciaa.Hand
