/- A log: the iterator over all steps of a record. -/
import Derived.Test.YtbfogcckbhkciaaHandZ5
namespace Go.Proofs.Ytbfogcckbhkciaa.Hand
open Go.RowKit Go.Maps Go.Proofs.YtbfogcckbhkciaaW.PrintWords Go.Proofs.YtbfogcckbhkciaaW.PrintLast
set_option linter.unusedVariables false
set_option linter.unusedSimpArgs false
/-- The variables of the iterator. -/
structure CapW (W : World) (bl bb bh bs q p a gb cb gh ch : Nat) (As : Option Addr) (cs : Nat) (b h : List Int) (sets : List SetT) : Prop where
  xl : W.cell? ⟨bl, 0, none⟩ = some (.pointer (some ⟨q, 0, none⟩))
  xb : W.cell? ⟨bb, 0, none⟩ = some (.slice (some ⟨gb, 0, none⟩) b.length cb)
  xh : W.cell? ⟨bh, 0, none⟩ = some (.slice (some ⟨gh, 0, none⟩) 8 ch)
  xs : W.cell? ⟨bs, 0, none⟩ = some (.slice As sets.length cs)
  x0 : W.cell? ⟨q, 0, none⟩ = some (.pointer (some ⟨p, 0, none⟩))
  x1 : W.cell? ⟨q, 1, none⟩ = some (.int .i64 a)
  xc : b.length ≤ cb
  xrb : ReadsInt W .u8 (some ⟨gb, 0, none⟩) b.length b
  xrh : ReadsInt W .u8 (some ⟨gh, 0, none⟩) 8 h
  xrs : SetK.C W As sets.length sets
theorem CapW.below {W W' : World} {bl bb bh bs q p a gb cb gh ch : Nat} {As : Option Addr} {cs : Nat} {b h : List Int} {sets : List SetT} (x : CapW W bl bb bh bs q p a gb cb gh ch As cs b h sets) (hb : Below W.heap.size W W') : CapW W' bl bb bh bs q p a gb cb gh ch As cs b h sets :=
  ⟨bel_cell hb x.xl, bel_cell hb x.xb, bel_cell hb x.xh, bel_cell hb x.xs, bel_cell hb x.x0, bel_cell hb x.x1, x.xc, x.xrb.below hb, x.xrh.below hb, Kd.C_below x.xrs hb⟩
def zeros8 : List Int := List.replicate 8 0
def stepA (a : Nat) : List StepM := [.wr (8 * a) zeros8, .fl (8 * a) (8 * 1), .fe]
def stepB (a : Nat) (b : List Int) (j : Nat) : List StepM := (List.range j).map fun i => .wr (8 * (a + 1 + i)) (cut b (8 * i) 8)
def stepC (a m : Nat) (h : List Int) : List StepM := [.fl (8 * (a + 1)) (8 * m), .fe, .wr (8 * a) h, .fl (8 * a) (8 * 1), .fe]
def stepS (s : SetT) : List StepM := [.wr (8 * s.1.toNat) (leB s.2 8), .fl (8 * s.1.toNat) (8 * 1)]
def stepE (sets : List SetT) : List StepM := sets.flatMap stepS
/-- All steps of a record. -/
def walS (a : Nat) (h b : List Int) (sets : List SetT) : List StepM := stepA a ++ stepB a b (b.length / 8) ++ stepC a (b.length / 8) h ++ stepE sets ++ [.fe]
theorem stepB_succ (a : Nat) (b : List Int) (j : Nat) : stepB a b (j + 1) = stepB a b j ++ [.wr (8 * (a + 1 + j)) (cut b (8 * j) 8)] := by simp [stepB, List.range_succ]
theorem stepB_length (a : Nat) (b : List Int) (j : Nat) : (stepB a b j).length = j := by simp [stepB]
theorem stepE_length (sets : List SetT) : (stepE sets).length = 2 * sets.length := by
  induction sets with
  | nil => rfl
  | cons s l ih => rw [stepE, List.flatMap_cons, List.length_append]; rw [stepE] at ih; rw [ih, List.length_cons]; simp [stepS]; omega
section
variable {ops : Array Oper} {o : Oper} {a : Act} {Q : Exit → Act → World → Prop} {Kc : Act → World → Prop}
theorem appW_step {w0 W : World} (hw : Region.wanted o (yielded ops a.tmps) = true) (s x : Operand) (ho : o.op = .call { callee := .builtin .append, args := #[s, x], argTypes := #[82, 82] }) (n0 base q p : Nat) (v : Value) (xs ys : List StepW) (ms ns : List StepM) (A : Option Addr) (m c : Nat)
    (hm : ys.length = m) (hs : a.eval s = v) (hx : a.eval x = .slice A m c) (H : HasW w0 W n0 base q p v xs ms) (hr : SwK.C W A ys.length ys) (hy : AllW W (TW n0 v) q p ys ns) (hb : base ≤ W.heap.size) (hl : xs.length + ys.length ≤ 100000)
    (h : ∀ v1 w1, HasW w0 w1 n0 base q p v1 (xs ++ ys) (ms ++ ns) → Kc (a.put o.dst v1) w1) : if Region.wanted o (yielded ops a.tmps) = true then Oper.wp Try.prog o a W Kc Q else Kc (a.put o.dst undef) W := by
  subst hm
  refine Kd.R_append_rows_step SwK (w0 := w0) base hw s x 82 1 .nilFunc 8 ho Try.underlying82 info_fnW rfl (by decide) (by decide) v xs ys A ys.length c (fun _ => True) (fun _ => False) hs hx H.row hr (fun _ _ h => h) (fun _ hk => hk.elim) (fun _ _ => trivial) H.bel hb (by omega) ?_
  intro v1 w1 hr1 hb1 hg hat
  exact h v1 w1 (H.add hb hy hr1 hg hat)
theorem appW_list {w0 W : World} {rest : List Oper} (hgd : o.guard = none) (s x : Operand) (ho : o.op = .call { callee := .builtin .append, args := #[s, x], argTypes := #[82, 82] }) (n0 base q p : Nat) (v : Value) (xs ys : List StepW) (ms ns : List StepM) (A : Option Addr) (m c : Nat)
    (hm : ys.length = m) (hs : a.eval s = v) (hx : a.eval x = .slice A m c) (H : HasW w0 W n0 base q p v xs ms) (hr : SwK.C W A ys.length ys) (hy : AllW W (TW n0 v) q p ys ns) (hb : base ≤ W.heap.size) (hl : xs.length + ys.length ≤ 100000)
    (h : ∀ v1 w1, HasW w0 w1 n0 base q p v1 (xs ++ ys) (ms ++ ns) → wpList Try.prog ops Q rest (a.put o.dst v1) w1) : wpList Try.prog ops Q (o :: rest) a W := by
  subst hm
  refine Kd.R_append_rows SwK (w0 := w0) base hgd s x 82 1 .nilFunc 8 ho Try.underlying82 info_fnW rfl (by decide) (by decide) v xs ys A ys.length c (fun _ => True) (fun _ => False) hs hx H.row hr (fun _ _ h => h) (fun _ hk => hk.elim) (fun _ _ => trivial) H.bel hb (by omega) ?_
  intro v1 w1 hr1 hb1 hg hat
  exact h v1 w1 (H.add hb hy hr1 hg hat)
end
theorem stepE_take {sets : List SetT} {j : Nat} {x : SetT} (h : sets[j]? = some x) : stepE (sets.take (j + 1)) = stepE (sets.take j) ++ stepS x := by
  rw [List.take_add_one, h, Option.toList_some, stepE, List.flatMap_append, stepE]
  simp
theorem rowW_cell {w : World} {base : Nat} {u : Value} {xs : List StepW} (h : RowW w base u xs) (h0 : 0 < xs.length) : ∃ g c, u = .slice (some ⟨g, 0, none⟩) xs.length c ∧ base ≤ g ∧ ∀ k x, xs[k]? = some x → w.cell? ⟨g, k, none⟩ = some (encW x) := by
  obtain ⟨g, cap, e, hg, _⟩ := own_slice_form h h0
  refine ⟨g, cap, e, hg, fun k x hx => ?_⟩
  obtain ⟨A, c, e2, _, hC⟩ := Kd.R_reads h
  rw [e] at e2
  simp only [Value.slice.injEq] at e2
  obtain ⟨hA, _, _⟩ := e2
  have hR := Kd.reads_of_C (d := StepW.fe 0) hC
  obtain ⟨ad, ea, hc⟩ := hR.2.2 h0
  rw [← hA] at ea
  obtain rfl := Option.some.inj ea
  obtain ⟨hl, hk⟩ := List.getElem?_eq_some_iff.1 hx
  have := hc k hl
  rw [add_plain, List.getD_eq_getElem?_getD, hx] at this
  simpa using this
theorem cell_cells {w : World} {b o : Nat} {u : Value} (h : w.cell? ⟨b, o, none⟩ = some u) {ob : Obj} (hb : w.heap[b]? = some ob) : ob.isCells = true := by
  simp only [World.cell?, hb] at h
  cases ob <;> simp_all [Obj.isCells]
theorem IsW.monoC {w : World} {T T' : Nat → Prop} {q p : Nat} {x : StepW} {m : StepM} (h : IsW w T q p x m) (ht : ∀ b o u, w.cell? ⟨b, o, none⟩ = some u → T b → T' b) : IsW w T' q p x m := by
  cases x <;> cases m <;> simp only [IsW] at h ⊢
  · obtain ⟨h1, h2, h3, h4, ⟨i, h5, h5b, h5c⟩, h0, g, o, c, h6, h7, h8⟩ := h
    refine ⟨ht _ _ _ h4 h1, ht _ _ _ h5c h2, ht _ _ _ h7 h3, h4, ⟨i, h5, h5b, h5c⟩, h0, ?_⟩
    obtain ⟨ad, e, hx⟩ := h8.2.2 (by decide)
    obtain rfl := Option.some.inj e
    have := hx 0 (by decide)
    rw [add_plain] at this
    exact ⟨g, o, c, ht _ _ _ this h6, h7, h8⟩
  · obtain ⟨h1, h2, h3, h4, ⟨i, h5, h5b, h5c⟩, j, h6, h6b, h6c⟩ := h
    exact ⟨ht _ _ _ h4 h1, ht _ _ _ h5c h2, ht _ _ _ h6c h3, h4, ⟨i, h5, h5b, h5c⟩, j, h6, h6b, h6c⟩
  · exact h
theorem AllW.monoC {w : World} {T T' : Nat → Prop} {q p : Nat} (ht : ∀ b o u, w.cell? ⟨b, o, none⟩ = some u → T b → T' b) : ∀ {xs : List StepW} {ms : List StepM}, AllW w T q p xs ms → AllW w T' q p xs ms
  | [], [], _ => trivial
  | x :: xs, m :: ms, h => ⟨h.1.monoC ht, AllW.monoC ht h.2⟩
theorem IsW.moveC {w w1 : World} {T S : Nat → Prop} {q p : Nat} {x : StepW} {m : StepM} (h : IsW w T q p x m) (hf : Fr S w w1) (hs : ∀ b o u, w.cell? ⟨b, o, none⟩ = some u → T b → ¬ S b) : IsW w1 T q p x m :=
  ((h.monoC (T' := fun b => T b ∧ ¬ S b) (fun b o u hc ht => ⟨ht, hs b o u hc ht⟩)).move hf (fun b ht => ht.2)).mono (fun b _ ht => ht.1)
theorem AllW.moveC {w w1 : World} {T S : Nat → Prop} {q p : Nat} {xs : List StepW} {ms : List StepM} (h : AllW w T q p xs ms) (hf : Fr S w w1) (hs : ∀ b o u, w.cell? ⟨b, o, none⟩ = some u → T b → ¬ S b) : AllW w1 T q p xs ms :=
  ((h.monoC (T' := fun b => T b ∧ ¬ S b) (fun b o u hc ht => ⟨ht, hs b o u hc ht⟩)).move hf (fun b ht => ht.2)).mono (fun b _ ht => ht.1)
theorem IsW.monoN {w : World} {T T' : Nat → Prop} {q p : Nat} {x : StepW} {m : StepM} (h : IsW w T q p x m) (ht : ∀ b o u, u ≠ .slice none 0 0 → w.cell? ⟨b, o, none⟩ = some u → T b → T' b) : IsW w T' q p x m := by
  cases x <;> cases m <;> simp only [IsW] at h ⊢
  · obtain ⟨h1, h2, h3, h4, ⟨i, h5, h5b, h5c⟩, h0, g, o, c, h6, h7, h8⟩ := h
    refine ⟨ht _ _ _ (by simp) h4 h1, ht _ _ _ (by simp) h5c h2, ht _ _ _ (by simp) h7 h3, h4, ⟨i, h5, h5b, h5c⟩, h0, ?_⟩
    obtain ⟨ad, e, hx⟩ := h8.2.2 (by decide)
    obtain rfl := Option.some.inj e
    have := hx 0 (by decide)
    rw [add_plain] at this
    exact ⟨g, o, c, ht _ _ _ (by simp) this h6, h7, h8⟩
  · obtain ⟨h1, h2, h3, h4, ⟨i, h5, h5b, h5c⟩, j, h6, h6b, h6c⟩ := h
    exact ⟨ht _ _ _ (by simp) h4 h1, ht _ _ _ (by simp) h5c h2, ht _ _ _ (by simp) h6c h3, h4, ⟨i, h5, h5b, h5c⟩, j, h6, h6b, h6c⟩
  · exact h
theorem AllW.monoN {w : World} {T T' : Nat → Prop} {q p : Nat} (ht : ∀ b o u, u ≠ .slice none 0 0 → w.cell? ⟨b, o, none⟩ = some u → T b → T' b) : ∀ {xs : List StepW} {ms : List StepM}, AllW w T q p xs ms → AllW w T' q p xs ms
  | [], [], _ => trivial
  | x :: xs, m :: ms, h => ⟨h.1.monoN ht, AllW.monoN ht h.2⟩
theorem boxed_cell {w : World} {B : Nat} {t : TypeId} {v : Value} (h : Boxed w B t v) {o : Nat} {u : Value} (hc : w.cell? ⟨B, o, none⟩ = some u) : o = 0 ∧ u = v := by
  have hh : w.heap[B]? = some (.cells #[v] t (0, 0)) := h
  simp only [World.cell?, hh] at hc
  cases o with
  | zero => exact ⟨rfl, by simpa using hc.symm⟩
  | succ o => simp at hc
/-- Blocks of the steps, but the collecting variable's and its row's. -/
def TZ (n0 B : Nat) (v : Value) (b : Nat) : Prop := n0 ≤ b ∧ b ≠ B ∧ some b ≠ v.ownBlock
/-- What a round is told. -/
def ZW (n0 B q p : Nat) (y : StepW × StepM) (W : World) : Prop := ∀ v, Boxed W B 82 v → IsW W (TZ n0 B v) q p y.1 y.2
def SK (B : Nat) (v : Value) (W : World) (b : Nat) : Prop := b = B ∨ some b = v.ownBlock ∨ ∃ o, W.heap[b]? = some o ∧ o.isCells = false
/-- What a round keeps. -/
def KW (B : Nat) (W W' : World) : Prop := ∀ v, Boxed W B 82 v → ∃ v', Boxed W' B 82 v' ∧ Fr (SK B v W) W W' ∧ ∀ b, some b = v'.ownBlock → some b = v.ownBlock ∨ W.heap.size ≤ b
theorem KW.trans {B : Nat} {X Y V : World} (h : KW B X Y) (k : KW B Y V) : KW B X V := by
  intro v hv
  obtain ⟨v1, h1, f1, g1⟩ := h v hv
  obtain ⟨v2, h2, f2, g2⟩ := k v1 h1
  refine ⟨v2, h2, f1.trans f2 (fun b hb hlt => ?_), fun b hb => ?_⟩
  · rcases hb with rfl | hb | ⟨o, ho, hc⟩
    · exact .inl rfl
    · rcases g1 b hb with h | h
      · exact .inr (.inl h)
      · omega
    · by_cases hs : SK B v X b
      · exact hs
      · refine .inr (.inr ⟨o, ?_, hc⟩)
        rw [← f1.block b hlt hs]
        exact ho
  · rcases g2 b hb with h | h
    · exact g1 b h
    · exact .inr (Nat.le_trans f1.size h)
theorem fr_put {W : World} {l : Nat} (o' : Obj) (S : Nat → Prop) (hl : S l) : Fr S W (W.putObj l o') := ⟨rfl, rfl, rfl, by simp, fun k _ hk => World.putObj_heap_other (fun e => hk (by rw [e]; exact hl))⟩
/-- What the iterator holds between two rounds: its row, and what its steps are. -/
structure HeldW (n0 B q p g : Nat) (zs : List StepW) (Ms : List StepM) (W : World) : Prop where
  ex : ∃ v, Boxed W B 82 v ∧ some g ≠ v.ownBlock ∧ AllW W (TZ n0 B v) q p zs Ms
  row : ∀ k x, zs[k]? = some x → W.cell? ⟨g, k, none⟩ = some (encW x)
  ne : g ≠ B
theorem HeldW.kept {n0 B q p g : Nat} {zs : List StepW} {Ms : List StepM} {W W' : World} (h : HeldW n0 B q p g zs Ms W) (k : KW B W W') (hg : g < W.heap.size) : HeldW n0 B q p g zs Ms W' := by
  obtain ⟨v, hv, hne, ha⟩ := h.ex
  obtain ⟨v', hv', hf, ho⟩ := k v hv
  have hs : ∀ b o u, W.cell? ⟨b, o, none⟩ = some u → b ≠ B → some b ≠ v.ownBlock → ¬ SK B v W b := by
    rintro b o u hc h1 h2 (h3 | h3 | ⟨ob, h3, h4⟩)
    · exact h1 h3
    · exact h2 h3
    · have := cell_cells hc h3
      rw [h4] at this
      cases this
  refine ⟨⟨v', hv', fun e => ?_, ?_⟩, fun k x hx => hf.cell (h.row k x hx) (hs _ _ _ (h.row k x hx) h.ne hne), h.ne⟩
  · rcases ho g e with h1 | h1
    · exact hne h1
    · omega
  · refine ((ha.monoC (T' := fun b => TZ n0 B v b ∧ b < W.heap.size) (fun b o u hc ht => ⟨ht, World.block_lt_of_cell? _ _ hc⟩)).moveC hf (fun b o u hc ht => hs b o u hc ht.1.2.1 ht.1.2.2)).mono (fun b _ ht => ⟨ht.1.1, ht.1.2.1, fun e => ?_⟩)
    rcases ho b e with h1 | h1
    · exact ht.1.2.2 h1
    · omega
theorem HeldW.told {n0 B q p g : Nat} {zs : List StepW} {Ms : List StepM} {W : World} (h : HeldW n0 B q p g zs Ms W) {k : Nat} {x : StepW} (hx : zs[k]? = some x) : ∃ m, Ms[k]? = some m ∧ ZW n0 B q p (x, m) W := by
  obtain ⟨v, hv, hne, ha⟩ := h.ex
  obtain ⟨m, hm, hi⟩ := ha.get hx
  refine ⟨m, hm, fun v2 hv2 => ?_⟩
  have : v2 = v := by
    have h1 : W.heap[B]? = some (.cells #[v] 82 (0, 0)) := hv
    have h2 : W.heap[B]? = some (.cells #[v2] 82 (0, 0)) := hv2
    rw [h1] at h2
    simpa using h2.symm
  subst this
  exact hi
theorem KW.put {B : Nat} {W : World} {l : Nat} {o o' : Obj} (hB : B ≠ l) (h : W.heap[l]? = some o) (hc : o.isCells = false) : KW B W (W.putObj l o') := by
  intro v hv
  exact ⟨v, (World.putObj_heap_other hB).trans hv, fr_put o' _ (.inr (.inr ⟨o, h, hc⟩)), fun b hb => .inl hb⟩
theorem ZW.put {n0 B q p : Nat} {y : StepW × StepM} {W : World} {l : Nat} {o o' : Obj} (hB : B ≠ l) (h : W.heap[l]? = some o) (hc : o.isCells = false) (hz : ZW n0 B q p y W) : ZW n0 B q p y (W.putObj l o') := by
  intro v hv
  have hv0 : Boxed W B 82 v := (World.putObj_heap_other hB).symm.trans hv
  refine (hz v hv0).moveC (fr_put o' (fun b => b = l) rfl) (fun b o2 u hcell _ e => ?_)
  subst e
  have := cell_cells hcell h
  rw [hc] at this
  cases this
end Go.Proofs.Ytbfogcckbhkciaa.Hand
namespace Go.Proofs.Ytbfogcckbhkciaa.Hand
attribute [local go_sem] Oper.semAt_some
open Go.RowKit Go.Maps Go.Proofs.YtbfogcckbhkciaaW.PrintWords Go.Proofs.YtbfogcckbhkciaaW.PrintLast
set_option linter.unusedVariables false
set_option linter.unusedSimpArgs false
set_option maxRecDepth 100000 in
set_option maxHeartbeats 8000000 in
theorem steps1_goes (n : Nat) (hn1 : 1 ≤ n) (w0 : World) (n0 B : Nat) (bl bb bh bs q p a gb cb gh ch : Nat) (As : Option Addr) (cs : Nat) (b h : List Int) (sets : List SetT) (hc0 : CapW w0 bl bb bh bs q p a gb cb gh ch As cs b h sets) (hB0 : Boxed w0 B 82 (.slice none 0 0)) (m : Nat) (hbl : b.length = 8 * m) (hbm : 1 ≤ m) (hn00 : n0 ≤ w0.heap.size) (hng : n0 ≤ gb ∧ n0 ≤ gh ∧ n0 ≤ bl) (h8 : h.length = 8) (hbb : Bys b) (hbh : Bys h) (ha : a + 1 + m ≤ 8192) (hss : ∀ s ∈ sets, s.1 ≤ 8192 ∧ PosSt s) (hsl : sets.length ≤ 8192) :
    SeqZ n Try.prog 122 #[.pointer (some ⟨bl, 0, none⟩), .pointer (some ⟨bb, 0, none⟩), .pointer (some ⟨bh, 0, none⟩), .pointer (some ⟨bs, 0, none⟩)] (fun y : StepW × StepM => encW y.1) (ZW n0 B q p) (KW B) (fun ys => ys.map Prod.snd = walS a h b sets) 60000 w0 := by
  intro l J W hW hJ hY h0
  have hc := hc0.below hW
  have hBW : Boxed W B 82 (.slice none 0 0) := (hW.block B hB0.lt).trans hB0
  have hn0 : n0 ≤ W.heap.size := Nat.le_trans hn00 hW.size
  refine callsIn_wide.2 ?_
  show Calls Try.prog 122 #[.func (.yield l) #[] #[], .pointer (some ⟨bl, 0, none⟩), .pointer (some ⟨bb, 0, none⟩), .pointer (some ⟨bh, 0, none⟩), .pointer (some ⟨bs, 0, none⟩)] W _
  have HJ := Aside0.mk hJ
  have HY2 := Aside0.mk hY
  have HJ0 := Aside0.mk h0
  have HBX := Aside0.mk hBW
  have HWS := Aside0.mk (show walS a h b sets = stepA a ++ stepB a b m ++ stepC a m h ++ stepE sets ++ [.fe] by rw [walS, show b.length / 8 = m by omega])
  clear hJ hY h0 hBW hc0 hB0 hW hn00
  have HC := Aside0.mk hc
  have HSS := Aside0.mk hss
  have HGB := Aside0.mk (show gb < W.heap.size by
    obtain ⟨ad, e, hx⟩ := hc.xrb.2.2 (by omega)
    obtain rfl := Option.some.inj e
    have := World.block_lt_of_cell? _ _ (hx 0 (by omega))
    rwa [add_plain] at this)
  have HGH := Aside0.mk (show gh < W.heap.size by
    obtain ⟨ad, e, hx⟩ := hc.xrh.2.2 (by omega)
    obtain rfl := Option.some.inj e
    have := World.block_lt_of_cell? _ _ (hx 0 (by omega))
    rwa [add_plain] at this)
  have km := print_make_int (P := Try.prog) 23 5 (.int .u8 0) 1 Try.underlying23 info_u8 rfl (by decide) 8 (by omega) (by omega)
  go_enter Try.func122, Try.ntmps122
  go_wp2_with fail
  refine start_ (n := 20) (S := fun w' => w'.cell? ⟨bl, 0, none⟩ = some (.pointer (some ⟨q, 0, none⟩)) ∧ w'.cell? ⟨q, 0, none⟩ = some (.pointer (some ⟨p, 0, none⟩)) ∧ w'.cell? ⟨q, 1, none⟩ = some (.int .i64 a)) (ds := []) #[false, false, false, false, false, false, false, false, false, false, false, false, false, false, false, false, false, false, false, false] (by kernel_rfl) rfl rfl ⟨hc.xl, hc.x0, hc.x1⟩ (fun hHeld => ?_)
  refine take_ (i := 0) (N := some 12) (v := ?_) (a' := ?_) #[true, false, false, false, false, false, false, false, false, false, false, false, false, false, false, false, false, false, false, false] rfl rfl (by kernel_rfl) (fun _ _ _ h => h) (Or.inl ⟨by rfl, ?_⟩) hHeld ?_ ?_
  rotate_left
  · rintro w' ⟨s0, s1, s2⟩
    go_simp
    with_reducible rfl
  rotate_left
  · simp only [Act.put, List.setIfInBounds_toArray, List.set_cons_zero, List.set_cons_succ, i64_w, i32_w]
    rfl
  refine take_ (i := 1) (N := some 13) (v := ?_) (a' := ?_) #[true, true, false, false, false, false, false, false, false, false, false, false, false, false, false, false, false, false, false, false] rfl rfl (by kernel_rfl) (fun _ _ _ h => h) (Or.inl ⟨by rfl, ?_⟩) hHeld ?_ ?_
  rotate_left
  · rintro w' ⟨s0, s1, s2⟩
    go_simp
    with_reducible rfl
  rotate_left
  · simp only [Act.put, List.setIfInBounds_toArray, List.set_cons_zero, List.set_cons_succ, i64_w, i32_w]
    rfl
  refine pure_ (i := 2) (N := some 14) (v := ?_) (a' := ?_) #[true, true, true, false, false, false, false, false, false, false, false, false, false, false, false, false, false, false, false, false] rfl rfl (by kernel_rfl) (fun _ _ _ h => h) (Or.inl ⟨by rfl, ?_⟩) ?_ ?_
  rotate_left
  · intro w'
    go_simp
    with_reducible rfl
  rotate_left
  · simp only [Act.put, List.setIfInBounds_toArray, List.set_cons_zero, List.set_cons_succ, i64_w, i32_w]
    rfl
  refine pure_ (i := 3) (N := some 15) (v := ?_) (a' := ?_) #[true, true, true, true, false, false, false, false, false, false, false, false, false, false, false, false, false, false, false, false] rfl rfl (by kernel_rfl) (fun _ _ _ h => h) (Or.inl ⟨by rfl, ?_⟩) ?_ ?_
  rotate_left
  · intro w'
    go_simp
    with_reducible rfl
  rotate_left
  · simp only [Act.put, List.setIfInBounds_toArray, List.set_cons_zero, List.set_cons_succ, i64_w, i32_w]
    rfl
  refine take_ (i := 4) (N := some 16) (v := ?_) (a' := ?_) #[true, true, true, true, true, false, false, false, false, false, false, false, false, false, false, false, false, false, false, false] rfl rfl (by kernel_rfl) (fun _ _ _ h => h) (Or.inl ⟨by rfl, ?_⟩) hHeld ?_ ?_
  rotate_left
  · rintro w' ⟨s0, s1, s2⟩
    go_simp
    with_reducible rfl
  rotate_left
  · simp only [Act.put, List.setIfInBounds_toArray, List.set_cons_zero, List.set_cons_succ, i64_w, i32_w]
    rfl
  refine take_ (i := 7) (N := some 19) (v := ?_) (a' := ?_) #[true, true, true, true, true, false, false, true, false, false, false, false, false, false, false, false, false, false, false, false] rfl rfl (by kernel_rfl) (fun _ _ _ h => h) (Or.inl ⟨by rfl, ?_⟩) hHeld ?_ ?_
  rotate_left
  · rintro w' ⟨s0, s1, s2⟩
    go_simp
    with_reducible rfl
  rotate_left
  · simp only [Act.put, List.setIfInBounds_toArray, List.set_cons_zero, List.set_cons_succ, i64_w, i32_w]
    rfl
  refine take_ (i := 8) (N := some 20) (v := ?_) (a' := ?_) #[true, true, true, true, true, false, false, true, true, false, false, false, false, false, false, false, false, false, false, false] rfl rfl (by kernel_rfl) (fun _ _ _ h => h) (Or.inl ⟨by rfl, ?_⟩) hHeld ?_ ?_
  rotate_left
  · rintro w' ⟨s0, s1, s2⟩
    go_simp
    with_reducible rfl
  rotate_left
  · simp only [Act.put, List.setIfInBounds_toArray, List.set_cons_zero, List.set_cons_succ, i64_w, i32_w]
    rfl
  refine pure_ (i := 9) (N := some 21) (v := ?_) (a' := ?_) #[true, true, true, true, true, false, false, true, true, true, false, false, false, false, false, false, false, false, false, false] rfl rfl (by kernel_rfl) (fun _ _ _ h => h) (Or.inl ⟨by rfl, ?_⟩) ?_ ?_
  rotate_left
  · intro w'
    go_simp
    with_reducible rfl
  rotate_left
  · simp only [Act.put, List.setIfInBounds_toArray, List.set_cons_zero, List.set_cons_succ, i64_w, i32_w]
    rfl
  refine pure_ (i := 10) (N := some 22) (v := ?_) (a' := ?_) #[true, true, true, true, true, false, false, true, true, true, true, false, false, false, false, false, false, false, false, false] rfl rfl (by kernel_rfl) (fun _ _ _ h => h) (Or.inl ⟨by rfl, ?_⟩) ?_ ?_
  rotate_left
  · intro w'
    go_simp
    with_reducible rfl
  rotate_left
  · simp only [Act.put, List.setIfInBounds_toArray, List.set_cons_zero, List.set_cons_succ, i64_w, i32_w]
    rfl
  refine take_ (i := 11) (N := some 23) (v := ?_) (a' := ?_) #[true, true, true, true, true, false, false, true, true, true, true, true, false, false, false, false, false, false, false, false] rfl rfl (by kernel_rfl) (fun _ _ _ h => h) (Or.inl ⟨by rfl, ?_⟩) hHeld ?_ ?_
  rotate_left
  · rintro w' ⟨s0, s1, s2⟩
    go_simp
    with_reducible rfl
  rotate_left
  · simp only [Act.put, List.setIfInBounds_toArray, List.set_cons_zero, List.set_cons_succ, i64_w, i32_w]
    rfl
  refine take_ (i := 13) (N := some 25) (v := ?_) (a' := ?_) #[true, true, true, true, true, false, false, true, true, true, true, true, false, true, false, false, false, false, false, false] rfl rfl (by kernel_rfl) (fun _ _ _ h => h) (Or.inl ⟨by rfl, ?_⟩) hHeld ?_ ?_
  rotate_left
  · rintro w' ⟨s0, s1, s2⟩
    go_simp
    with_reducible rfl
  rotate_left
  · simp only [Act.put, List.setIfInBounds_toArray, List.set_cons_zero, List.set_cons_succ, i64_w, i32_w]
    rfl
  refine pure_ (i := 14) (N := some 26) (v := ?_) (a' := ?_) #[true, true, true, true, true, false, false, true, true, true, true, true, false, true, true, false, false, false, false, false] rfl rfl (by kernel_rfl) (fun _ _ _ h => h) (Or.inl ⟨by rfl, ?_⟩) ?_ ?_
  rotate_left
  · intro w'
    go_simp
    with_reducible rfl
  rotate_left
  · simp only [Act.put, List.setIfInBounds_toArray, List.set_cons_zero, List.set_cons_succ, i64_w, i32_w]
    rfl
  refine pure_ (i := 15) (N := some 27) (v := ?_) (a' := ?_) #[true, true, true, true, true, false, false, true, true, true, true, true, false, true, true, true, false, false, false, false] rfl rfl (by kernel_rfl) (fun _ _ _ h => h) (Or.inl ⟨by rfl, ?_⟩) ?_ ?_
  rotate_left
  · intro w'
    go_simp
    with_reducible rfl
  rotate_left
  · simp only [Act.put, List.setIfInBounds_toArray, List.set_cons_zero, List.set_cons_succ, i64_w, i32_w]
    rfl
  refine take_ (i := 16) (N := some 28) (v := ?_) (a' := ?_) #[true, true, true, true, true, false, false, true, true, true, true, true, false, true, true, true, true, false, false, false] rfl rfl (by kernel_rfl) (fun _ _ _ h => h) (Or.inl ⟨by rfl, ?_⟩) hHeld ?_ ?_
  rotate_left
  · rintro w' ⟨s0, s1, s2⟩
    go_simp
    with_reducible rfl
  rotate_left
  · simp only [Act.put, List.setIfInBounds_toArray, List.set_cons_zero, List.set_cons_succ, i64_w, i32_w]
    rfl
  refine pure_ (i := 17) (N := some 29) (v := ?_) (a' := ?_) #[true, true, true, true, true, false, false, true, true, true, true, true, false, true, true, true, true, true, false, false] rfl rfl (by kernel_rfl) (fun _ _ _ h => h) (Or.inl ⟨by rfl, ?_⟩) ?_ ?_
  rotate_left
  · intro w'
    go_simp
    with_reducible rfl
  rotate_left
  · simp only [Act.put, List.setIfInBounds_toArray, List.set_cons_zero, List.set_cons_succ, i64_w, i32_w]
    rfl
  refine one_ (i := 5) (N := some 17) #[true, true, true, true, true, true, false, true, true, true, true, true, false, true, true, true, true, true, false, false] rfl rfl (by kernel_rfl) (by decide) (fun K hK => ?_)
  refine value_ (w1 := ?_) (v := ?_) (by rfl) rfl ?_ ?_
  rotate_left 2
  · go_simp
    constructor
    · rfl
    · rfl
  have HZ5 := Aside0.mk (zeros_reads W.drew 8 (by decide))
  have HB5 := Aside0.mk (below_alloc (Below.refl W.heap.size W).drew (.cells (madeCells #[.int .u8 0] 8) 5))
  refine hK.out _ _ ⟨(HC.out.below HB5.out).xl, (HC.out.below HB5.out).x0, (HC.out.below HB5.out).x1⟩ (fun hHeld => ?_)
  clear hK K
  refine norm_ (a' := ?_) ?_ ?_
  rotate_left
  · show Act.put _ (some 17) _ = _
    simp only [Act.put, List.setIfInBounds_toArray, List.set_cons_zero, List.set_cons_succ, i64_w, i32_w]
    rfl
  refine one_ (i := 6) (N := some 18) #[true, true, true, true, true, true, true, true, true, true, true, true, false, true, true, true, true, true, false, false] rfl rfl (by kernel_rfl) (by decide) (fun K hK => ?_)
  refine goes_ Try.func77 (by kernel_rfl) rfl #[.pointer (some ⟨q, 0, none⟩), .int .i64 (a : Int), .slice (some ⟨W.heap.size, 0, none⟩) 8 8] (by rfl) rfl rfl (by simp only [List.map_toArray, List.map_cons, List.map_nil]; rfl) ?_
  with_reducible refine (mkwrW_calls _ q a (some ⟨W.heap.size, 0, none⟩) 8 8).mono ?_
  rintro e w6 ⟨b1, b2, b3, rfl, hm6, hb6⟩
  refine ⟨_, rfl, ?_⟩
  have HM6 := Aside0.mk hm6
  have HZ6 := Aside0.mk (HZ5.out.below hb6)
  have HB6 := Aside0.mk (bel_step HB5.out hb6)
  clear hm6 hb6
  refine hK.out _ _ ⟨(HC.out.below HB6.out).xl, (HC.out.below HB6.out).x0, (HC.out.below HB6.out).x1⟩ (fun hHeld => ?_)
  clear hK K
  refine norm_ (a' := ?_) ?_ ?_
  rotate_left
  · show Act.put _ (some 18) _ = _
    simp only [Act.put, List.setIfInBounds_toArray, List.set_cons_zero, List.set_cons_succ, i64_w, i32_w]
    rfl
  refine one_ (i := 12) (N := some 24) #[true, true, true, true, true, true, true, true, true, true, true, true, true, true, true, true, true, true, false, false] rfl rfl (by kernel_rfl) (by decide) (fun K hK => ?_)
  refine goes_ Try.func79 (by kernel_rfl) rfl #[.pointer (some ⟨q, 0, none⟩), .int .i64 (a : Int), .int .i64 1] (by rfl) rfl rfl (by simp only [List.map_toArray, List.map_cons, List.map_nil]; rfl) ?_
  with_reducible refine (mkflW_calls w6 q a 1).mono ?_
  rintro e w7 ⟨b4, b5, b6, rfl, hm7, hb7⟩
  refine ⟨_, rfl, ?_⟩
  have HM7 := Aside0.mk hm7
  have HZ7 := Aside0.mk (HZ6.out.below hb7)
  have HB7 := Aside0.mk (bel_step HB6.out hb7)
  have HB67 := Aside0.mk hb7
  clear hm7 hb7
  refine hK.out _ _ ⟨(HC.out.below HB7.out).xl, (HC.out.below HB7.out).x0, (HC.out.below HB7.out).x1⟩ (fun hHeld => ?_)
  clear hK K
  refine norm_ (a' := ?_) ?_ ?_
  rotate_left
  · show Act.put _ (some 24) _ = _
    simp only [Act.put, List.setIfInBounds_toArray, List.set_cons_zero, List.set_cons_succ, i64_w, i32_w]
    rfl
  refine one_ (i := 18) (N := some 30) #[true, true, true, true, true, true, true, true, true, true, true, true, true, true, true, true, true, true, true, false] rfl rfl (by kernel_rfl) (by decide) (fun K hK => ?_)
  refine value_ (w1 := ?_) (v := ?_) (by rfl) rfl ?_ ?_
  rotate_left 2
  · go_simp
    constructor
    · rfl
    · rfl
  refine hK.out _ _ ⟨(HC.out.below (below_alloc HB7.out _)).xl, (HC.out.below (below_alloc HB7.out _)).x0, (HC.out.below (below_alloc HB7.out _)).x1⟩ (fun hHeld => ?_)
  clear hK K
  refine norm_ (a' := ?_) ?_ ?_
  rotate_left
  · show Act.put _ (some 30) _ = _
    simp only [Act.put, List.setIfInBounds_toArray, List.set_cons_zero, List.set_cons_succ, i64_w, i32_w]
    rfl
  refine pure_ (i := 19) (N := some 6) (v := ?_) (a' := ?_) #[true, true, true, true, true, true, true, true, true, true, true, true, true, true, true, true, true, true, true, true] rfl rfl (by kernel_rfl) (fun _ _ _ h => h) (Or.inl ⟨by rfl, ?_⟩) ?_ ?_
  rotate_left
  · intro w'
    go_simp
    with_reducible rfl
  rotate_left
  · simp only [Act.put, List.setIfInBounds_toArray, List.set_cons_zero, List.set_cons_succ, i64_w, i32_w]
    rfl
  refine done_ (by kernel_rfl) ?_
  have HBM := Aside0.mk hbl
  have hbig : b.length ≤ 65536 := by omega
  clear hbl hss
  go_wp2_with fail
  go_loopw [6, 7] (fun v i wr => ∃ (j : Nat) (xs : List StepW), j ≤ m ∧ i = .int .i64 (8 * (j : Int)) ∧ Aside0 (HasW W wr n0 W.heap.size q p v xs (stepA a ++ stepB a b j))) (fun _ i _ => (8 * m - intOf i).toNat)
  case atStart =>
    refine ⟨0, [.wr b1 b2 b3, .fl b4 b5 b6, .fe p], Nat.zero_le _, rfl, ⟨?_⟩⟩
    have z6 : W.heap.size ≤ w6.heap.size := HB6.out.size
    have hall : AllW w7 (fun b => n0 ≤ b) q p [.wr b1 b2 b3, .fl b4 b5 b6, .fe p] (stepA a) :=
      ⟨isW_wr HM6.out HB67.out (fun b hb => by simp at hb; omega) hn0 (by omega) rfl HZ7.out, isW_fl HM7.out (Below.refl _ _) (fun b hb => by omega) (by omega) (by decide), rfl, trivial⟩
    have hT : AllW w7 (TW n0 (.slice (some ⟨w7.heap.size, 0, none⟩) 3 3)) q p [.wr b1 b2 b3, .fl b4 b5 b6, .fe p] (stepA a) := hall.mono (fun b hb h => ⟨h, fun e => by simp [Value.ownBlock] at e; omega⟩)
    exact ⟨litW_row (xs := [.wr b1 b2 b3, .fl b4 b5 b6, .fe p]) HB7.out.size (by simp), by rw [show stepB a b 0 = [] from rfl, List.append_nil]; exact hT.move (S := fun _ => False) (Fr.of_below (below_alloc (Below.refl _ _) _) _) (fun _ _ h => h), below_alloc HB7.out _⟩
  case round =>
    obtain ⟨j, xs, hj, rfl, HR⟩ := hrel
    have HCR := Aside0.mk (HC.out.below HR.out.bel)
    by_cases hlt : j < m
    · have z1 : decide (8 * (j : Int) < (b.length : Int)) = true := decide_eq_true (by have := HBM.out; omega)
      have e1 : IntKind.i64.wrap ((a : Int) + 1) = a + 1 := IntWalk.i64_in _ (by omega)
      have e2 : 8 * (j : Int) / 8 = j := by omega
      have e3 : IntKind.i64.wrap ((a : Int) + 1 + j) = (a : Int) + 1 + j := IntWalk.i64_in _ (by omega)
      have HE3 := Aside0.mk (show (a : Int) + 1 + j = ((a + 1 + j : Nat) : Int) by omega)
      have e4 : IntKind.i64.wrap (8 * (j : Int) + 8) = 8 * j + 8 := IntWalk.i64_in _ (by omega)
      have e5 : IntKind.i64.wrap (j : Int) = j := IntWalk.i64_in _ (by omega)
      have hmid := mid_gen gb cb b.length (8 * j) (8 * (j : Int)) (8 * (j : Int) + 8) (by omega) (by omega) (by have := HBM.out; omega) HCR.out.xc
      have r0 := HCR.out.xl
      have r1 := HCR.out.x1
      have r2 := HCR.out.xb
      have HRD := Aside0.mk (HR.out.move (Below.refl wr.heap.size wr).drew HR.out.bel.size)
      go_wp2_with fail
      have HLX := Aside0.mk (show xs.length = 3 + j by have := HR.out.all.len; rw [this, List.length_append, stepB_length]; rfl)
      refine start_ (n := 19) (S := fun w' => w'.cell? ⟨bl, 0, none⟩ = some (.pointer (some ⟨q, 0, none⟩)) ∧ w'.cell? ⟨q, 1, none⟩ = some (.int .i64 a) ∧ w'.cell? ⟨bb, 0, none⟩ = some (.slice (some ⟨gb, 0, none⟩) b.length cb)) (ds := [17]) #[false, false, false, false, false, false, false, false, false, false, false, false, false, false, false, false, false, false, false] (by kernel_rfl) rfl rfl ⟨r0, r1, r2⟩ (fun hHeld => ?_)
      refine pure_ (i := 0) (N := some 37) (v := ?_) (a' := ?_) #[true, false, false, false, false, false, false, false, false, false, false, false, false, false, false, false, false, false, false] rfl rfl (by kernel_rfl) (fun _ _ _ h => h) (Or.inl ⟨by rfl, ?_⟩) ?_ ?_
      rotate_left
      · intro w'
        go_simp
        with_reducible rfl
      rotate_left
      · simp only [Act.put, List.setIfInBounds_toArray, List.set_cons_zero, List.set_cons_succ, i64_w, i32_w]
        rfl
      refine pure_ (i := 7) (N := some 44) (v := ?_) (a' := ?_) #[true, false, false, false, false, false, false, true, false, false, false, false, false, false, false, false, false, false, false] rfl rfl (by kernel_rfl) (fun _ _ _ h => h) (Or.inl ⟨by rfl, ?_⟩) ?_ ?_
      rotate_left
      · intro w'
        go_simp
        with_reducible rfl
      rotate_left
      · simp only [Act.put, List.setIfInBounds_toArray, List.set_cons_zero, List.set_cons_succ, i64_w, i32_w]
        rfl
      refine pure_ (i := 8) (N := some 45) (v := ?_) (a' := ?_) #[true, false, false, false, false, false, false, true, true, false, false, false, false, false, false, false, false, false, false] rfl rfl (by kernel_rfl) (fun _ _ _ h => h) (Or.inl ⟨by rfl, ?_⟩) ?_ ?_
      rotate_left
      · intro w'
        go_simp
        with_reducible rfl
      rotate_left
      · simp only [Act.put, List.setIfInBounds_toArray, List.set_cons_zero, List.set_cons_succ, i64_w, i32_w]
        rfl
      refine pure_ (i := 11) (N := some 48) (v := ?_) (a' := ?_) #[true, false, false, false, false, false, false, true, true, false, false, true, false, false, false, false, false, false, false] rfl rfl (by kernel_rfl) (fun _ _ _ h => h) (Or.inl ⟨by rfl, ?_⟩) ?_ ?_
      rotate_left
      · intro w'
        go_simp
        with_reducible rfl
      rotate_left
      · simp only [Act.put, List.setIfInBounds_toArray, List.set_cons_zero, List.set_cons_succ, i64_w, i32_w]
        rfl
      refine pure_ (i := 12) (N := some 49) (v := ?_) (a' := ?_) #[true, false, false, false, false, false, false, true, true, false, false, true, true, false, false, false, false, false, false] rfl rfl (by kernel_rfl) (fun _ _ _ h => h) (Or.inl ⟨by rfl, ?_⟩) ?_ ?_
      rotate_left
      · intro w'
        go_simp
        with_reducible rfl
      rotate_left
      · simp only [Act.put, List.setIfInBounds_toArray, List.set_cons_zero, List.set_cons_succ, i64_w, i32_w]
        rfl
      refine pure_ (i := 13) (N := some 50) (v := ?_) (a' := ?_) #[true, false, false, false, false, false, false, true, true, false, false, true, true, true, false, false, false, false, false] rfl rfl (by kernel_rfl) (fun _ _ _ h => h) (Or.inl ⟨by rfl, ?_⟩) ?_ ?_
      rotate_left
      · intro w'
        go_simp
        with_reducible rfl
      rotate_left
      · simp only [Act.put, List.setIfInBounds_toArray, List.set_cons_zero, List.set_cons_succ, i64_w, i32_w]
        rfl
      refine take_ (i := 1) (N := some 38) (v := ?_) (a' := ?_) #[true, true, false, false, false, false, false, true, true, false, false, true, true, true, false, false, false, false, false] rfl rfl (by kernel_rfl) (fun _ _ _ h => h) (Or.inl ⟨by rfl, ?_⟩) hHeld ?_ ?_
      rotate_left
      · rintro w' ⟨s0, s1, s2⟩
        go_simp
        with_reducible rfl
      rotate_left
      · simp only [Act.put, List.setIfInBounds_toArray, List.set_cons_zero, List.set_cons_succ, i64_w, i32_w]
        rfl
      refine take_ (i := 2) (N := some 39) (v := ?_) (a' := ?_) #[true, true, true, false, false, false, false, true, true, false, false, true, true, true, false, false, false, false, false] rfl rfl (by kernel_rfl) (fun _ _ _ h => h) (Or.inl ⟨by rfl, ?_⟩) hHeld ?_ ?_
      rotate_left
      · rintro w' ⟨s0, s1, s2⟩
        go_simp
        with_reducible rfl
      rotate_left
      · simp only [Act.put, List.setIfInBounds_toArray, List.set_cons_zero, List.set_cons_succ, i64_w, i32_w]
        rfl
      refine pure_ (i := 3) (N := some 40) (v := ?_) (a' := ?_) #[true, true, true, true, false, false, false, true, true, false, false, true, true, true, false, false, false, false, false] rfl rfl (by kernel_rfl) (fun _ _ _ h => h) (Or.inl ⟨by rfl, ?_⟩) ?_ ?_
      rotate_left
      · intro w'
        go_simp
        with_reducible rfl
      rotate_left
      · simp only [Act.put, List.setIfInBounds_toArray, List.set_cons_zero, List.set_cons_succ, i64_w, i32_w]
        rfl
      refine pure_ (i := 4) (N := some 41) (v := ?_) (a' := ?_) #[true, true, true, true, true, false, false, true, true, false, false, true, true, true, false, false, false, false, false] rfl rfl (by kernel_rfl) (fun _ _ _ h => h) (Or.inl ⟨by rfl, ?_⟩) ?_ ?_
      rotate_left
      · intro w'
        go_simp
        with_reducible rfl
      rotate_left
      · simp only [Act.put, List.setIfInBounds_toArray, List.set_cons_zero, List.set_cons_succ, i64_w, i32_w]
        rfl
      refine take_ (i := 5) (N := some 42) (v := ?_) (a' := ?_) #[true, true, true, true, true, true, false, true, true, false, false, true, true, true, false, false, false, false, false] rfl rfl (by kernel_rfl) (fun _ _ _ h => h) (Or.inl ⟨by rfl, ?_⟩) hHeld ?_ ?_
      rotate_left
      · rintro w' ⟨s0, s1, s2⟩
        go_simp
        with_reducible rfl
      rotate_left
      · simp only [Act.put, List.setIfInBounds_toArray, List.set_cons_zero, List.set_cons_succ, i64_w, i32_w]
        rfl
      refine pure_ (i := 6) (N := some 43) (v := ?_) (a' := ?_) #[true, true, true, true, true, true, true, true, true, false, false, true, true, true, false, false, false, false, false] rfl rfl (by kernel_rfl) (fun _ _ _ h => h) (Or.inl ⟨by rfl, ?_⟩) ?_ ?_
      rotate_left
      · intro w'
        go_simp
        with_reducible rfl
      rotate_left
      · simp only [Act.put, List.setIfInBounds_toArray, List.set_cons_zero, List.set_cons_succ, i64_w, i32_w]
        rfl
      refine pure_ (i := 9) (N := some 46) (v := ?_) (a' := ?_) #[true, true, true, true, true, true, true, true, true, true, false, true, true, true, false, false, false, false, false] rfl rfl (by kernel_rfl) (fun _ _ _ h => h) (Or.inl ⟨by rfl, ?_⟩) ?_ ?_
      rotate_left
      · intro w'
        go_simp
        with_reducible rfl
      rotate_left
      · simp only [Act.put, List.setIfInBounds_toArray, List.set_cons_zero, List.set_cons_succ, i64_w, i32_w]
        rfl
      refine take_ (i := 10) (N := some 47) (v := ?_) (a' := ?_) #[true, true, true, true, true, true, true, true, true, true, true, true, true, true, false, false, false, false, false] rfl rfl (by kernel_rfl) (fun _ _ _ h => h) (Or.inl ⟨by rfl, ?_⟩) hHeld ?_ ?_
      rotate_left
      · rintro w' ⟨s0, s1, s2⟩
        go_simp
        with_reducible rfl
      rotate_left
      · simp only [Act.put, List.setIfInBounds_toArray, List.set_cons_zero, List.set_cons_succ, i64_w, i32_w]
        rfl
      refine pure_ (i := 14) (N := some 51) (v := ?_) (a' := ?_) #[true, true, true, true, true, true, true, true, true, true, true, true, true, true, true, false, false, false, false] rfl rfl (by kernel_rfl) (fun _ _ _ h => h) (Or.inl ⟨by rfl, ?_⟩) ?_ ?_
      rotate_left
      · intro w'
        go_simp
        with_reducible rfl
      rotate_left
      · simp only [Act.put, List.setIfInBounds_toArray, List.set_cons_zero, List.set_cons_succ, i64_w, i32_w]
        rfl
      refine one_ (i := 15) (N := some 52) #[true, true, true, true, true, true, true, true, true, true, true, true, true, true, true, true, false, false, false] rfl rfl (by kernel_rfl) (by decide) (fun K hK => ?_)
      refine goes_ Try.func77 (by kernel_rfl) rfl #[.pointer (some ⟨q, 0, none⟩), .int .i64 ((a : Int) + 1 + j), .slice (some ⟨gb, 8 * j, none⟩) 8 (cb - 8 * j)] (by rfl) rfl rfl (by simp only [List.map_toArray, List.map_cons, List.map_nil]; rfl) ?_
      with_reducible refine (mkwrW_calls wr.drew q ((a : Int) + 1 + j) (some ⟨gb, 8 * j, none⟩) 8 (cb - 8 * j)).mono ?_
      rintro e v6 ⟨d1, d2, d3, rfl, hm, hb⟩
      refine ⟨_, rfl, ?_⟩
      rw [HE3.out] at hm
      have HM1 := Aside0.mk hm
      have HV6 := Aside0.mk hb
      have HVB := Aside0.mk (bel_step (Below.refl wr.heap.size wr).drew hb)
      clear hm hb
      refine hK.out _ _ ⟨(HCR.out.below HVB.out).xl, (HCR.out.below HVB.out).x1, (HCR.out.below HVB.out).xb⟩ (fun hHeld => ?_)
      clear hK K
      refine norm_ (a' := ?_) ?_ ?_
      rotate_left
      · show Act.put _ (some 52) _ = _
        simp only [Act.put, List.setIfInBounds_toArray, List.set_cons_zero, List.set_cons_succ, i64_w, i32_w]
        rfl
      refine one_ (i := 16) (N := some 53) #[true, true, true, true, true, true, true, true, true, true, true, true, true, true, true, true, true, false, false] rfl rfl (by kernel_rfl) (by decide) (fun K hK => ?_)
      refine value_ (w1 := ?_) (v := ?_) (by rfl) rfl ?_ ?_
      rotate_left 2
      · go_simp
        constructor
        · rfl
        · rfl
      refine hK.out _ _ ⟨(HCR.out.below (below_alloc HVB.out _)).xl, (HCR.out.below (below_alloc HVB.out _)).x1, (HCR.out.below (below_alloc HVB.out _)).xb⟩ (fun hHeld => ?_)
      clear hK K
      refine norm_ (a' := ?_) ?_ ?_
      rotate_left
      · show Act.put _ (some 53) _ = _
        simp only [Act.put, List.setIfInBounds_toArray, List.set_cons_zero, List.set_cons_succ, i64_w, i32_w]
        rfl
      refine last_ (i := 17) (N := some 54) #[true, true, true, true, true, true, true, true, true, true, true, true, true, true, true, true, true, true, false] rfl rfl (by kernel_rfl) (by decide) (fun K hK => ?_)
      refine appW_step (by rfl) (.tmp 37) (.tmp 53) rfl n0 W.heap.size q p u6 xs [.wr d1 d2 d3] (stepA a ++ stepB a b j) [.wr (8 * (a + 1 + j)) (cut b (8 * j) 8)] (some ⟨v6.heap.size, 0, none⟩) 1 1 rfl rfl rfl (w0 := W) ?hA ?hB ?hC ?hD ?hE ?_
      case hA => exact HRD.out.move (bel_step HV6.out (below_alloc (Below.refl _ _) _)) (Nat.le_trans HR.out.bel.size (by simp))
      case hB => exact litW_steps (xs := [.wr d1 d2 d3]) (by simp)
      case hC => exact ⟨isW_wr HM1.out (below_alloc (Below.refl _ _) _) (fun b hb => TW.new HR.out (Nat.le_trans hn0 HR.out.bel.size) hb) (TW.old HR.out hng.1 HGB.out) (by omega) (cut_length (by have := HBM.out; omega)) (reads_mid (HCR.out.below (below_alloc HVB.out _)).xrb (8 * j) (by have := HBM.out; omega)), trivial⟩
      case hD => exact Nat.le_trans HR.out.bel.size (below_alloc HVB.out _).size
      case hE => have := HLX.out; simp; omega
      intro v7 w8 hw8
      have HW8 := Aside0.mk hw8
      clear hw8
      refine hK.out _ _ ?_
      clear hK K
      refine norm_ (a' := ?_) ?_ ?_
      rotate_left
      · show Act.put _ (some 54) _ = _
        simp only [Act.put, List.setIfInBounds_toArray, List.set_cons_zero, List.set_cons_succ, i64_w, i32_w]
        rfl
      refine pure_ (i := 18) (N := some 6) (v := ?_) (a' := ?_) #[true, true, true, true, true, true, true, true, true, true, true, true, true, true, true, true, true, true, true] rfl rfl (by kernel_rfl) (fun _ _ _ h => h) (Or.inl ⟨by rfl, ?_⟩) ?_ ?_
      rotate_left
      · intro w'
        go_simp
        with_reducible rfl
      rotate_left
      · simp only [Act.put, List.setIfInBounds_toArray, List.set_cons_zero, List.set_cons_succ, i64_w, i32_w]
        rfl
      refine done_ (by kernel_rfl) ?_
      go_wp2_with fail
      go_roundw
      case rel => exact ⟨j + 1, xs ++ [.wr d1 d2 d3], by omega, by go_num, ⟨by rw [stepB_succ, ← List.append_assoc]; exact HW8.out⟩⟩
      case measure => simp [intOf]; omega
    · obtain rfl : j = m := by omega
      have z1 : decide (8 * (j : Int) < (b.length : Int)) = false := decide_eq_false (by have := HBM.out; omega)
      have e1 : IntKind.i64.wrap ((a : Int) + 1) = (a : Int) + 1 := IntWalk.i64_in _ (by omega)
      have HE1 := Aside0.mk (show (a : Int) + 1 = ((a + 1 : Nat) : Int) by omega)
      have e2 : (b.length : Int) / 8 = j := by have := HBM.out; omega
      have e3 : IntKind.i64.wrap (j : Int) = j := IntWalk.i64_in _ (by omega)
      have r0 := HCR.out.xl
      have r1 := HCR.out.x1
      have r2 := HCR.out.xb
      have r3 := HCR.out.x0
      have r4 := HCR.out.xh
      have HRD := Aside0.mk (HR.out.move (Below.refl wr.heap.size wr).drew HR.out.bel.size)
      have HLX := Aside0.mk (show xs.length = 3 + j by have := HR.out.all.len; rw [this, List.length_append, stepB_length]; rfl)
      go_wp2_with fail
      refine start_ (n := 37) (S := fun w' => w'.cell? ⟨bl, 0, none⟩ = some (.pointer (some ⟨q, 0, none⟩)) ∧ w'.cell? ⟨q, 1, none⟩ = some (.int .i64 a) ∧ w'.cell? ⟨bb, 0, none⟩ = some (.slice (some ⟨gb, 0, none⟩) b.length cb) ∧ w'.cell? ⟨q, 0, none⟩ = some (.pointer (some ⟨p, 0, none⟩)) ∧ w'.cell? ⟨bh, 0, none⟩ = some (.slice (some ⟨gh, 0, none⟩) 8 ch)) (ds := [35]) #[false, false, false, false, false, false, false, false, false, false, false, false, false, false, false, false, false, false, false, false, false, false, false, false, false, false, false, false, false, false, false, false, false, false, false, false, false] (by kernel_rfl) rfl rfl ⟨r0, r1, r2, r3, r4⟩ (fun hHeld => ?_)
      refine pure_ (i := 0) (N := some 55) (v := ?_) (a' := ?_) #[true, false, false, false, false, false, false, false, false, false, false, false, false, false, false, false, false, false, false, false, false, false, false, false, false, false, false, false, false, false, false, false, false, false, false, false, false] rfl rfl (by kernel_rfl) (fun _ _ _ h => h) (Or.inl ⟨by rfl, ?_⟩) ?_ ?_
      rotate_left
      · intro w'
        go_simp
        with_reducible rfl
      rotate_left
      · simp only [Act.put, List.setIfInBounds_toArray, List.set_cons_zero, List.set_cons_succ, i64_w, i32_w]
        rfl
      refine take_ (i := 1) (N := some 56) (v := ?_) (a' := ?_) #[true, true, false, false, false, false, false, false, false, false, false, false, false, false, false, false, false, false, false, false, false, false, false, false, false, false, false, false, false, false, false, false, false, false, false, false, false] rfl rfl (by kernel_rfl) (fun _ _ _ h => h) (Or.inl ⟨by rfl, ?_⟩) hHeld ?_ ?_
      rotate_left
      · rintro w' ⟨s0, s1, s2, s3, s4⟩
        go_simp
        with_reducible rfl
      rotate_left
      · simp only [Act.put, List.setIfInBounds_toArray, List.set_cons_zero, List.set_cons_succ, i64_w, i32_w]
        rfl
      refine take_ (i := 2) (N := some 57) (v := ?_) (a' := ?_) #[true, true, true, false, false, false, false, false, false, false, false, false, false, false, false, false, false, false, false, false, false, false, false, false, false, false, false, false, false, false, false, false, false, false, false, false, false] rfl rfl (by kernel_rfl) (fun _ _ _ h => h) (Or.inl ⟨by rfl, ?_⟩) hHeld ?_ ?_
      rotate_left
      · rintro w' ⟨s0, s1, s2, s3, s4⟩
        go_simp
        with_reducible rfl
      rotate_left
      · simp only [Act.put, List.setIfInBounds_toArray, List.set_cons_zero, List.set_cons_succ, i64_w, i32_w]
        rfl
      refine pure_ (i := 3) (N := some 58) (v := ?_) (a' := ?_) #[true, true, true, true, false, false, false, false, false, false, false, false, false, false, false, false, false, false, false, false, false, false, false, false, false, false, false, false, false, false, false, false, false, false, false, false, false] rfl rfl (by kernel_rfl) (fun _ _ _ h => h) (Or.inl ⟨by rfl, ?_⟩) ?_ ?_
      rotate_left
      · intro w'
        go_simp
        with_reducible rfl
      rotate_left
      · simp only [Act.put, List.setIfInBounds_toArray, List.set_cons_zero, List.set_cons_succ, i64_w, i32_w]
        rfl
      refine pure_ (i := 4) (N := some 59) (v := ?_) (a' := ?_) #[true, true, true, true, true, false, false, false, false, false, false, false, false, false, false, false, false, false, false, false, false, false, false, false, false, false, false, false, false, false, false, false, false, false, false, false, false] rfl rfl (by kernel_rfl) (fun _ _ _ h => h) (Or.inl ⟨by rfl, ?_⟩) ?_ ?_
      rotate_left
      · intro w'
        go_simp
        with_reducible rfl
      rotate_left
      · simp only [Act.put, List.setIfInBounds_toArray, List.set_cons_zero, List.set_cons_succ, i64_w, i32_w]
        rfl
      refine take_ (i := 5) (N := some 60) (v := ?_) (a' := ?_) #[true, true, true, true, true, true, false, false, false, false, false, false, false, false, false, false, false, false, false, false, false, false, false, false, false, false, false, false, false, false, false, false, false, false, false, false, false] rfl rfl (by kernel_rfl) (fun _ _ _ h => h) (Or.inl ⟨by rfl, ?_⟩) hHeld ?_ ?_
      rotate_left
      · rintro w' ⟨s0, s1, s2, s3, s4⟩
        go_simp
        with_reducible rfl
      rotate_left
      · simp only [Act.put, List.setIfInBounds_toArray, List.set_cons_zero, List.set_cons_succ, i64_w, i32_w]
        rfl
      refine pure_ (i := 6) (N := some 61) (v := ?_) (a' := ?_) #[true, true, true, true, true, true, true, false, false, false, false, false, false, false, false, false, false, false, false, false, false, false, false, false, false, false, false, false, false, false, false, false, false, false, false, false, false] rfl rfl (by kernel_rfl) (fun _ _ _ h => h) (Or.inl ⟨by rfl, ?_⟩) ?_ ?_
      rotate_left
      · intro w'
        go_simp
        with_reducible rfl
      rotate_left
      · simp only [Act.put, List.setIfInBounds_toArray, List.set_cons_zero, List.set_cons_succ, i64_w, i32_w]
        rfl
      refine take_ (i := 7) (N := some 62) (v := ?_) (a' := ?_) #[true, true, true, true, true, true, true, true, false, false, false, false, false, false, false, false, false, false, false, false, false, false, false, false, false, false, false, false, false, false, false, false, false, false, false, false, false] rfl rfl (by kernel_rfl) (fun _ _ _ h => h) (Or.inl ⟨by rfl, ?_⟩) hHeld ?_ ?_
      rotate_left
      · rintro w' ⟨s0, s1, s2, s3, s4⟩
        go_simp
        with_reducible rfl
      rotate_left
      · simp only [Act.put, List.setIfInBounds_toArray, List.set_cons_zero, List.set_cons_succ, i64_w, i32_w]
        rfl
      refine pure_ (i := 8) (N := some 63) (v := ?_) (a' := ?_) #[true, true, true, true, true, true, true, true, true, false, false, false, false, false, false, false, false, false, false, false, false, false, false, false, false, false, false, false, false, false, false, false, false, false, false, false, false] rfl rfl (by kernel_rfl) (fun _ _ _ h => h) (Or.inl ⟨by rfl, ?_⟩) ?_ ?_
      rotate_left
      · intro w'
        go_simp
        with_reducible rfl
      rotate_left
      · simp only [Act.put, List.setIfInBounds_toArray, List.set_cons_zero, List.set_cons_succ, i64_w, i32_w]
        rfl
      refine pure_ (i := 9) (N := some 64) (v := ?_) (a' := ?_) #[true, true, true, true, true, true, true, true, true, true, false, false, false, false, false, false, false, false, false, false, false, false, false, false, false, false, false, false, false, false, false, false, false, false, false, false, false] rfl rfl (by kernel_rfl) (fun _ _ _ h => h) (Or.inl ⟨by rfl, ?_⟩) ?_ ?_
      rotate_left
      · intro w'
        go_simp
        with_reducible rfl
      rotate_left
      · simp only [Act.put, List.setIfInBounds_toArray, List.set_cons_zero, List.set_cons_succ, i64_w, i32_w]
        rfl
      refine take_ (i := 11) (N := some 66) (v := ?_) (a' := ?_) #[true, true, true, true, true, true, true, true, true, true, false, true, false, false, false, false, false, false, false, false, false, false, false, false, false, false, false, false, false, false, false, false, false, false, false, false, false] rfl rfl (by kernel_rfl) (fun _ _ _ h => h) (Or.inl ⟨by rfl, ?_⟩) hHeld ?_ ?_
      rotate_left
      · rintro w' ⟨s0, s1, s2, s3, s4⟩
        go_simp
        with_reducible rfl
      rotate_left
      · simp only [Act.put, List.setIfInBounds_toArray, List.set_cons_zero, List.set_cons_succ, i64_w, i32_w]
        rfl
      refine pure_ (i := 12) (N := some 67) (v := ?_) (a' := ?_) #[true, true, true, true, true, true, true, true, true, true, false, true, true, false, false, false, false, false, false, false, false, false, false, false, false, false, false, false, false, false, false, false, false, false, false, false, false] rfl rfl (by kernel_rfl) (fun _ _ _ h => h) (Or.inl ⟨by rfl, ?_⟩) ?_ ?_
      rotate_left
      · intro w'
        go_simp
        with_reducible rfl
      rotate_left
      · simp only [Act.put, List.setIfInBounds_toArray, List.set_cons_zero, List.set_cons_succ, i64_w, i32_w]
        rfl
      refine pure_ (i := 13) (N := some 68) (v := ?_) (a' := ?_) #[true, true, true, true, true, true, true, true, true, true, false, true, true, true, false, false, false, false, false, false, false, false, false, false, false, false, false, false, false, false, false, false, false, false, false, false, false] rfl rfl (by kernel_rfl) (fun _ _ _ h => h) (Or.inl ⟨by rfl, ?_⟩) ?_ ?_
      rotate_left
      · intro w'
        go_simp
        with_reducible rfl
      rotate_left
      · simp only [Act.put, List.setIfInBounds_toArray, List.set_cons_zero, List.set_cons_succ, i64_w, i32_w]
        rfl
      refine take_ (i := 14) (N := some 69) (v := ?_) (a' := ?_) #[true, true, true, true, true, true, true, true, true, true, false, true, true, true, true, false, false, false, false, false, false, false, false, false, false, false, false, false, false, false, false, false, false, false, false, false, false] rfl rfl (by kernel_rfl) (fun _ _ _ h => h) (Or.inl ⟨by rfl, ?_⟩) hHeld ?_ ?_
      rotate_left
      · rintro w' ⟨s0, s1, s2, s3, s4⟩
        go_simp
        with_reducible rfl
      rotate_left
      · simp only [Act.put, List.setIfInBounds_toArray, List.set_cons_zero, List.set_cons_succ, i64_w, i32_w]
        rfl
      refine pure_ (i := 15) (N := some 70) (v := ?_) (a' := ?_) #[true, true, true, true, true, true, true, true, true, true, false, true, true, true, true, true, false, false, false, false, false, false, false, false, false, false, false, false, false, false, false, false, false, false, false, false, false] rfl rfl (by kernel_rfl) (fun _ _ _ h => h) (Or.inl ⟨by rfl, ?_⟩) ?_ ?_
      rotate_left
      · intro w'
        go_simp
        with_reducible rfl
      rotate_left
      · simp only [Act.put, List.setIfInBounds_toArray, List.set_cons_zero, List.set_cons_succ, i64_w, i32_w]
        rfl
      refine take_ (i := 16) (N := some 71) (v := ?_) (a' := ?_) #[true, true, true, true, true, true, true, true, true, true, false, true, true, true, true, true, true, false, false, false, false, false, false, false, false, false, false, false, false, false, false, false, false, false, false, false, false] rfl rfl (by kernel_rfl) (fun _ _ _ h => h) (Or.inl ⟨by rfl, ?_⟩) hHeld ?_ ?_
      rotate_left
      · rintro w' ⟨s0, s1, s2, s3, s4⟩
        go_simp
        with_reducible rfl
      rotate_left
      · simp only [Act.put, List.setIfInBounds_toArray, List.set_cons_zero, List.set_cons_succ, i64_w, i32_w]
        rfl
      refine take_ (i := 17) (N := some 72) (v := ?_) (a' := ?_) #[true, true, true, true, true, true, true, true, true, true, false, true, true, true, true, true, true, true, false, false, false, false, false, false, false, false, false, false, false, false, false, false, false, false, false, false, false] rfl rfl (by kernel_rfl) (fun _ _ _ h => h) (Or.inl ⟨by rfl, ?_⟩) hHeld ?_ ?_
      rotate_left
      · rintro w' ⟨s0, s1, s2, s3, s4⟩
        go_simp
        with_reducible rfl
      rotate_left
      · simp only [Act.put, List.setIfInBounds_toArray, List.set_cons_zero, List.set_cons_succ, i64_w, i32_w]
        rfl
      refine pure_ (i := 18) (N := some 73) (v := ?_) (a' := ?_) #[true, true, true, true, true, true, true, true, true, true, false, true, true, true, true, true, true, true, true, false, false, false, false, false, false, false, false, false, false, false, false, false, false, false, false, false, false] rfl rfl (by kernel_rfl) (fun _ _ _ h => h) (Or.inl ⟨by rfl, ?_⟩) ?_ ?_
      rotate_left
      · intro w'
        go_simp
        with_reducible rfl
      rotate_left
      · simp only [Act.put, List.setIfInBounds_toArray, List.set_cons_zero, List.set_cons_succ, i64_w, i32_w]
        rfl
      refine pure_ (i := 19) (N := some 74) (v := ?_) (a' := ?_) #[true, true, true, true, true, true, true, true, true, true, false, true, true, true, true, true, true, true, true, true, false, false, false, false, false, false, false, false, false, false, false, false, false, false, false, false, false] rfl rfl (by kernel_rfl) (fun _ _ _ h => h) (Or.inl ⟨by rfl, ?_⟩) ?_ ?_
      rotate_left
      · intro w'
        go_simp
        with_reducible rfl
      rotate_left
      · simp only [Act.put, List.setIfInBounds_toArray, List.set_cons_zero, List.set_cons_succ, i64_w, i32_w]
        rfl
      refine take_ (i := 20) (N := some 75) (v := ?_) (a' := ?_) #[true, true, true, true, true, true, true, true, true, true, false, true, true, true, true, true, true, true, true, true, true, false, false, false, false, false, false, false, false, false, false, false, false, false, false, false, false] rfl rfl (by kernel_rfl) (fun _ _ _ h => h) (Or.inl ⟨by rfl, ?_⟩) hHeld ?_ ?_
      rotate_left
      · rintro w' ⟨s0, s1, s2, s3, s4⟩
        go_simp
        with_reducible rfl
      rotate_left
      · simp only [Act.put, List.setIfInBounds_toArray, List.set_cons_zero, List.set_cons_succ, i64_w, i32_w]
        rfl
      refine take_ (i := 21) (N := some 76) (v := ?_) (a' := ?_) #[true, true, true, true, true, true, true, true, true, true, false, true, true, true, true, true, true, true, true, true, true, true, false, false, false, false, false, false, false, false, false, false, false, false, false, false, false] rfl rfl (by kernel_rfl) (fun _ _ _ h => h) (Or.inl ⟨by rfl, ?_⟩) hHeld ?_ ?_
      rotate_left
      · rintro w' ⟨s0, s1, s2, s3, s4⟩
        go_simp
        with_reducible rfl
      rotate_left
      · simp only [Act.put, List.setIfInBounds_toArray, List.set_cons_zero, List.set_cons_succ, i64_w, i32_w]
        rfl
      refine take_ (i := 23) (N := some 78) (v := ?_) (a' := ?_) #[true, true, true, true, true, true, true, true, true, true, false, true, true, true, true, true, true, true, true, true, true, true, false, true, false, false, false, false, false, false, false, false, false, false, false, false, false] rfl rfl (by kernel_rfl) (fun _ _ _ h => h) (Or.inl ⟨by rfl, ?_⟩) hHeld ?_ ?_
      rotate_left
      · rintro w' ⟨s0, s1, s2, s3, s4⟩
        go_simp
        with_reducible rfl
      rotate_left
      · simp only [Act.put, List.setIfInBounds_toArray, List.set_cons_zero, List.set_cons_succ, i64_w, i32_w]
        rfl
      refine take_ (i := 24) (N := some 79) (v := ?_) (a' := ?_) #[true, true, true, true, true, true, true, true, true, true, false, true, true, true, true, true, true, true, true, true, true, true, false, true, true, false, false, false, false, false, false, false, false, false, false, false, false] rfl rfl (by kernel_rfl) (fun _ _ _ h => h) (Or.inl ⟨by rfl, ?_⟩) hHeld ?_ ?_
      rotate_left
      · rintro w' ⟨s0, s1, s2, s3, s4⟩
        go_simp
        with_reducible rfl
      rotate_left
      · simp only [Act.put, List.setIfInBounds_toArray, List.set_cons_zero, List.set_cons_succ, i64_w, i32_w]
        rfl
      refine pure_ (i := 25) (N := some 80) (v := ?_) (a' := ?_) #[true, true, true, true, true, true, true, true, true, true, false, true, true, true, true, true, true, true, true, true, true, true, false, true, true, true, false, false, false, false, false, false, false, false, false, false, false] rfl rfl (by kernel_rfl) (fun _ _ _ h => h) (Or.inl ⟨by rfl, ?_⟩) ?_ ?_
      rotate_left
      · intro w'
        go_simp
        with_reducible rfl
      rotate_left
      · simp only [Act.put, List.setIfInBounds_toArray, List.set_cons_zero, List.set_cons_succ, i64_w, i32_w]
        rfl
      refine pure_ (i := 26) (N := some 81) (v := ?_) (a' := ?_) #[true, true, true, true, true, true, true, true, true, true, false, true, true, true, true, true, true, true, true, true, true, true, false, true, true, true, true, false, false, false, false, false, false, false, false, false, false] rfl rfl (by kernel_rfl) (fun _ _ _ h => h) (Or.inl ⟨by rfl, ?_⟩) ?_ ?_
      rotate_left
      · intro w'
        go_simp
        with_reducible rfl
      rotate_left
      · simp only [Act.put, List.setIfInBounds_toArray, List.set_cons_zero, List.set_cons_succ, i64_w, i32_w]
        rfl
      refine take_ (i := 27) (N := some 82) (v := ?_) (a' := ?_) #[true, true, true, true, true, true, true, true, true, true, false, true, true, true, true, true, true, true, true, true, true, true, false, true, true, true, true, true, false, false, false, false, false, false, false, false, false] rfl rfl (by kernel_rfl) (fun _ _ _ h => h) (Or.inl ⟨by rfl, ?_⟩) hHeld ?_ ?_
      rotate_left
      · rintro w' ⟨s0, s1, s2, s3, s4⟩
        go_simp
        with_reducible rfl
      rotate_left
      · simp only [Act.put, List.setIfInBounds_toArray, List.set_cons_zero, List.set_cons_succ, i64_w, i32_w]
        rfl
      refine take_ (i := 29) (N := some 84) (v := ?_) (a' := ?_) #[true, true, true, true, true, true, true, true, true, true, false, true, true, true, true, true, true, true, true, true, true, true, false, true, true, true, true, true, false, true, false, false, false, false, false, false, false] rfl rfl (by kernel_rfl) (fun _ _ _ h => h) (Or.inl ⟨by rfl, ?_⟩) hHeld ?_ ?_
      rotate_left
      · rintro w' ⟨s0, s1, s2, s3, s4⟩
        go_simp
        with_reducible rfl
      rotate_left
      · simp only [Act.put, List.setIfInBounds_toArray, List.set_cons_zero, List.set_cons_succ, i64_w, i32_w]
        rfl
      refine pure_ (i := 30) (N := some 85) (v := ?_) (a' := ?_) #[true, true, true, true, true, true, true, true, true, true, false, true, true, true, true, true, true, true, true, true, true, true, false, true, true, true, true, true, false, true, true, false, false, false, false, false, false] rfl rfl (by kernel_rfl) (fun _ _ _ h => h) (Or.inl ⟨by rfl, ?_⟩) ?_ ?_
      rotate_left
      · intro w'
        go_simp
        with_reducible rfl
      rotate_left
      · simp only [Act.put, List.setIfInBounds_toArray, List.set_cons_zero, List.set_cons_succ, i64_w, i32_w]
        rfl
      refine pure_ (i := 31) (N := some 86) (v := ?_) (a' := ?_) #[true, true, true, true, true, true, true, true, true, true, false, true, true, true, true, true, true, true, true, true, true, true, false, true, true, true, true, true, false, true, true, true, false, false, false, false, false] rfl rfl (by kernel_rfl) (fun _ _ _ h => h) (Or.inl ⟨by rfl, ?_⟩) ?_ ?_
      rotate_left
      · intro w'
        go_simp
        with_reducible rfl
      rotate_left
      · simp only [Act.put, List.setIfInBounds_toArray, List.set_cons_zero, List.set_cons_succ, i64_w, i32_w]
        rfl
      refine take_ (i := 32) (N := some 87) (v := ?_) (a' := ?_) #[true, true, true, true, true, true, true, true, true, true, false, true, true, true, true, true, true, true, true, true, true, true, false, true, true, true, true, true, false, true, true, true, true, false, false, false, false] rfl rfl (by kernel_rfl) (fun _ _ _ h => h) (Or.inl ⟨by rfl, ?_⟩) hHeld ?_ ?_
      rotate_left
      · rintro w' ⟨s0, s1, s2, s3, s4⟩
        go_simp
        with_reducible rfl
      rotate_left
      · simp only [Act.put, List.setIfInBounds_toArray, List.set_cons_zero, List.set_cons_succ, i64_w, i32_w]
        rfl
      refine pure_ (i := 33) (N := some 88) (v := ?_) (a' := ?_) #[true, true, true, true, true, true, true, true, true, true, false, true, true, true, true, true, true, true, true, true, true, true, false, true, true, true, true, true, false, true, true, true, true, true, false, false, false] rfl rfl (by kernel_rfl) (fun _ _ _ h => h) (Or.inl ⟨by rfl, ?_⟩) ?_ ?_
      rotate_left
      · intro w'
        go_simp
        with_reducible rfl
      rotate_left
      · simp only [Act.put, List.setIfInBounds_toArray, List.set_cons_zero, List.set_cons_succ, i64_w, i32_w]
        rfl
      refine one_ (i := 10) (N := some 65) #[true, true, true, true, true, true, true, true, true, true, true, true, true, true, true, true, true, true, true, true, true, true, false, true, true, true, true, true, false, true, true, true, true, true, false, false, false] rfl rfl (by kernel_rfl) (by decide) (fun K hK => ?_)
      refine goes_ Try.func79 (by kernel_rfl) rfl #[.pointer (some ⟨q, 0, none⟩), .int .i64 ((a : Int) + 1), .int .i64 (j : Int)] (by rfl) rfl rfl (by simp only [List.map_toArray, List.map_cons, List.map_nil]; rfl) ?_
      with_reducible refine (mkflW_calls wr.drew q ((a : Int) + 1) j).mono ?_
      rintro e v1 ⟨d1, d2, d3, rfl, hm, hb⟩
      refine ⟨_, rfl, ?_⟩
      rw [HE1.out] at hm
      have HM1 := Aside0.mk hm
      have HV1 := Aside0.mk (bel_step (Below.refl wr.heap.size wr).drew hb)
      clear hm hb
      refine hK.out _ _ ⟨(HCR.out.below HV1.out).xl, (HCR.out.below HV1.out).x1, (HCR.out.below HV1.out).xb, (HCR.out.below HV1.out).x0, (HCR.out.below HV1.out).xh⟩ (fun hHeld => ?_)
      clear hK K
      refine norm_ (a' := ?_) ?_ ?_
      rotate_left
      · show Act.put _ (some 65) _ = _
        simp only [Act.put, List.setIfInBounds_toArray, List.set_cons_zero, List.set_cons_succ, i64_w, i32_w]
        rfl
      refine one_ (i := 22) (N := some 77) #[true, true, true, true, true, true, true, true, true, true, true, true, true, true, true, true, true, true, true, true, true, true, true, true, true, true, true, true, false, true, true, true, true, true, false, false, false] rfl rfl (by kernel_rfl) (by decide) (fun K hK => ?_)
      refine goes_ Try.func77 (by kernel_rfl) rfl #[.pointer (some ⟨q, 0, none⟩), .int .i64 (a : Int), .slice (some ⟨gh, 0, none⟩) 8 ch] (by rfl) rfl rfl (by simp only [List.map_toArray, List.map_cons, List.map_nil]; rfl) ?_
      with_reducible refine (mkwrW_calls v1 q a (some ⟨gh, 0, none⟩) 8 ch).mono ?_
      rintro e v2 ⟨d4, d5, d6, rfl, hm, hb⟩
      refine ⟨_, rfl, ?_⟩
      have HM2 := Aside0.mk hm
      have HV2 := Aside0.mk (bel_step HV1.out hb)
      have HV12 := Aside0.mk hb
      clear hm hb
      refine hK.out _ _ ⟨(HCR.out.below HV2.out).xl, (HCR.out.below HV2.out).x1, (HCR.out.below HV2.out).xb, (HCR.out.below HV2.out).x0, (HCR.out.below HV2.out).xh⟩ (fun hHeld => ?_)
      clear hK K
      refine norm_ (a' := ?_) ?_ ?_
      rotate_left
      · show Act.put _ (some 77) _ = _
        simp only [Act.put, List.setIfInBounds_toArray, List.set_cons_zero, List.set_cons_succ, i64_w, i32_w]
        rfl
      refine one_ (i := 28) (N := some 83) #[true, true, true, true, true, true, true, true, true, true, true, true, true, true, true, true, true, true, true, true, true, true, true, true, true, true, true, true, true, true, true, true, true, true, false, false, false] rfl rfl (by kernel_rfl) (by decide) (fun K hK => ?_)
      refine goes_ Try.func79 (by kernel_rfl) rfl #[.pointer (some ⟨q, 0, none⟩), .int .i64 (a : Int), .int .i64 1] (by rfl) rfl rfl (by simp only [List.map_toArray, List.map_cons, List.map_nil]; rfl) ?_
      with_reducible refine (mkflW_calls v2 q a 1).mono ?_
      rintro e v3 ⟨d7, d8, d9, rfl, hm, hb⟩
      refine ⟨_, rfl, ?_⟩
      have HM3 := Aside0.mk hm
      have HV3 := Aside0.mk (bel_step HV2.out hb)
      have HV23 := Aside0.mk hb
      clear hm hb
      refine hK.out _ _ ⟨(HCR.out.below HV3.out).xl, (HCR.out.below HV3.out).x1, (HCR.out.below HV3.out).xb, (HCR.out.below HV3.out).x0, (HCR.out.below HV3.out).xh⟩ (fun hHeld => ?_)
      clear hK K
      refine norm_ (a' := ?_) ?_ ?_
      rotate_left
      · show Act.put _ (some 83) _ = _
        simp only [Act.put, List.setIfInBounds_toArray, List.set_cons_zero, List.set_cons_succ, i64_w, i32_w]
        rfl
      refine one_ (i := 34) (N := some 89) #[true, true, true, true, true, true, true, true, true, true, true, true, true, true, true, true, true, true, true, true, true, true, true, true, true, true, true, true, true, true, true, true, true, true, true, false, false] rfl rfl (by kernel_rfl) (by decide) (fun K hK => ?_)
      refine value_ (w1 := ?_) (v := ?_) (by rfl) rfl ?_ ?_
      rotate_left 2
      · go_simp
        constructor
        · rfl
        · rfl
      refine hK.out _ _ ⟨(HCR.out.below (below_alloc HV3.out _)).xl, (HCR.out.below (below_alloc HV3.out _)).x1, (HCR.out.below (below_alloc HV3.out _)).xb, (HCR.out.below (below_alloc HV3.out _)).x0, (HCR.out.below (below_alloc HV3.out _)).xh⟩ (fun hHeld => ?_)
      clear hK K
      refine norm_ (a' := ?_) ?_ ?_
      rotate_left
      · show Act.put _ (some 89) _ = _
        simp only [Act.put, List.setIfInBounds_toArray, List.set_cons_zero, List.set_cons_succ, i64_w, i32_w]
        rfl
      refine last_ (i := 35) (N := some 90) #[true, true, true, true, true, true, true, true, true, true, true, true, true, true, true, true, true, true, true, true, true, true, true, true, true, true, true, true, true, true, true, true, true, true, true, true, false] rfl rfl (by kernel_rfl) (by decide) (fun K hK => ?_)
      refine appW_step (by rfl) (.tmp 55) (.tmp 89) rfl n0 W.heap.size q p u6 xs [.fl d1 d2 d3, .fe p, .wr d4 d5 d6, .fl d7 d8 d9, .fe p] (stepA a ++ stepB a b j) (stepC a j h) (some ⟨v3.heap.size, 0, none⟩) 5 5 rfl rfl rfl (w0 := W) ?hA ?hB ?hC ?hD ?hE ?_
      case hA => exact HR.out.move (below_alloc HV3.out _) HR.out.bel.size
      case hB => exact litW_steps (xs := [.fl d1 d2 d3, .fe p, .wr d4 d5 d6, .fl d7 d8 d9, .fe p]) (by simp)
      case hC => exact ⟨isW_fl HM1.out (bel_step HV12.out (bel_step HV23.out (below_alloc (Below.refl _ _) _))) (fun b hb => TW.new HR.out (Nat.le_trans hn0 HR.out.bel.size) hb) (by omega) (by omega), rfl, isW_wr HM2.out (bel_step HV23.out (below_alloc (Below.refl _ _) _)) (fun b hb => TW.new HR.out (Nat.le_trans hn0 HR.out.bel.size) (Nat.le_trans HV1.out.size hb)) (TW.old HR.out hng.2.1 HGH.out) (by omega) h8 (HCR.out.below (below_alloc HV3.out _)).xrh, isW_fl HM3.out (below_alloc (Below.refl _ _) _) (fun b hb => TW.new HR.out (Nat.le_trans hn0 HR.out.bel.size) (Nat.le_trans HV2.out.size hb)) (by omega) (by decide), rfl, trivial⟩
      case hD => exact Nat.le_trans HR.out.bel.size (below_alloc HV3.out _).size
      case hE => have := HLX.out; simp; omega
      intro v7 w8 hw8
      have HW8 := Aside0.mk hw8
      clear hw8
      refine hK.out _ _ ?_
      clear hK K
      refine norm_ (a' := ?_) ?_ ?_
      rotate_left
      · show Act.put _ (some 90) _ = _
        simp only [Act.put, List.setIfInBounds_toArray, List.set_cons_zero, List.set_cons_succ, i64_w, i32_w]
        rfl
      refine pure_ (i := 36) (N := some 6) (v := ?_) (a' := ?_) #[true, true, true, true, true, true, true, true, true, true, true, true, true, true, true, true, true, true, true, true, true, true, true, true, true, true, true, true, true, true, true, true, true, true, true, true, true] rfl rfl (by kernel_rfl) (fun _ _ _ h => h) (Or.inl ⟨by rfl, ?_⟩) ?_ ?_
      rotate_left
      · intro w'
        go_simp
        with_reducible rfl
      rotate_left
      · simp only [Act.put, List.setIfInBounds_toArray, List.set_cons_zero, List.set_cons_succ, i64_w, i32_w]
        rfl
      refine done_ (by kernel_rfl) ?_
      obtain ⟨xs3, hxs3⟩ : ∃ xs3, xs3 = xs ++ [.fl d1 d2 d3, .fe p, .wr d4 d5 d6, .fl d7 d8 d9, .fe p] := ⟨_, rfl⟩
      obtain ⟨ms3, hms3⟩ : ∃ ms3, ms3 = stepA a ++ stepB a b j ++ stepC a j h := ⟨_, rfl⟩
      rw [← hxs3, ← hms3] at HW8
      have HML := Aside0.mk (show ms3.length ≤ 8200 by rw [hms3, List.length_append, List.length_append, stepB_length]; simp [stepA, stepC]; omega)
      have HMS := Aside0.mk hms3
      have HC8 := Aside0.mk (HC.out.below HW8.out.bel)
      have r5 := HC8.out.xs
      clear hxs3 hms3 r0 r1 r2 r3 r4
      go_wp2_with fail
      go_loopw [6, 93] (fun v i wr => ∃ (t : Nat) (ys : List StepW), t ≤ sets.length ∧ i = .int .i64 (t : Int) ∧ Aside0 (HasW W wr n0 W.heap.size q p v ys (ms3 ++ stepE (sets.take t)))) (fun _ i _ => (sets.length - intOf i).toNat)
      case atStart => exact ⟨0, xs3, Nat.zero_le _, rfl, ⟨by rw [List.take_zero, show stepE [] = [] from rfl, List.append_nil]; exact HW8.out⟩⟩
      case round =>
        obtain ⟨t, ys, ht, rfl, HY⟩ := hrel
        have HCY := Aside0.mk (HC.out.below HY.out.bel)
        by_cases hlt2 : t < sets.length
        · obtain ⟨x, hx⟩ : ∃ x, sets[t]? = some x := ⟨_, List.getElem?_eq_getElem hlt2⟩
          obtain ⟨g9, o9, hA, hcb⟩ := C_at HCY.out.xrs (by decide) hx
          have HTK := Aside0.mk (stepE_take hx)
          have HLY := Aside0.mk (show ys.length ≤ 8200 + 2 * t by have := HY.out.all.len; rw [this, List.length_append, stepE_length, List.length_take]; have := HML.out; omega)
          obtain ⟨hx8, hxp⟩ := HSS.out x (List.mem_of_getElem? hx)
          obtain ⟨x, y⟩ := x
          obtain ⟨i, hi⟩ : ∃ i : Nat, x = i := ⟨x.toNat, by have := hxp.a0; simp only at this; omega⟩
          subst hi hA
          have HPY := Aside0.mk hxp
          have hi8 : i ≤ 8192 := by simp only at hx8; omega
          have b0 : wr.cell? ⟨g9, o9 + t * 2, none⟩ = some (.int .i64 i) := hcb 0 (by decide)
          have b1x : wr.cell? ⟨g9, o9 + t * 2 + 1, none⟩ = some (.int .u64 y) := hcb 1 (by decide)
          have HST := Aside0.mk (show stepS ((i : Int), y) = [.wr (8 * i) (leB y 8), .fl (8 * i) (8 * 1)] from rfl)
          obtain ⟨wa, hwa⟩ : ∃ wa, wa = wr.alloc (.cells #[.int .i64 (i : Int), .int .u64 y] 78) := ⟨_, rfl⟩
          have HBA := Aside0.mk (show Below wr.heap.size wr wa.drew by rw [hwa]; exact (below_alloc (Below.refl _ _) _).drew)
          have HWA := Aside0.mk hwa
          have q0 : wa.cell? ⟨wr.heap.size, 0, none⟩ = some (.int .i64 i) := by rw [hwa]; exact new_cell wr _ _ 0 rfl
          have q1 : wa.cell? ⟨wr.heap.size, 1, none⟩ = some (.int .u64 y) := by rw [hwa]; exact new_cell wr _ _ 1 rfl
          have q2 : wa.cell? ⟨bl, 0, none⟩ = some (.pointer (some ⟨q, 0, none⟩)) := (HCY.out.below HBA.out).xl
          have HYA := Aside0.mk (HY.out.move HBA.out HY.out.bel.size)
          clear hx hwa hx8 hxp hcb
          go_wp2_with fail
          rw [← HWA.out]
          refine start_ (n := 15) (S := fun w' => w'.cell? ⟨wr.heap.size, 0, none⟩ = some (.int .i64 i) ∧ w'.cell? ⟨wr.heap.size, 1, none⟩ = some (.int .u64 y) ∧ w'.cell? ⟨bl, 0, none⟩ = some (.pointer (some ⟨q, 0, none⟩))) (ds := [13]) #[false, false, false, false, false, false, false, false, false, false, false, false, false, false, false] (by kernel_rfl) rfl rfl ⟨q0, q1, q2⟩ (fun hHeld => ?_)
          refine pure_ (i := 0) (N := some 97) (v := ?_) (a' := ?_) #[true, false, false, false, false, false, false, false, false, false, false, false, false, false, false] rfl rfl (by kernel_rfl) (fun _ _ _ h => h) (Or.inl ⟨by rfl, ?_⟩) ?_ ?_
          rotate_left
          · intro w'
            go_simp
            with_reducible rfl
          rotate_left
          · simp only [Act.put, List.setIfInBounds_toArray, List.set_cons_zero, List.set_cons_succ, i64_w, i32_w]
            rfl
          refine pure_ (i := 2) (N := some 99) (v := ?_) (a' := ?_) #[true, false, true, false, false, false, false, false, false, false, false, false, false, false, false] rfl rfl (by kernel_rfl) (fun _ _ _ h => h) (Or.inl ⟨by rfl, ?_⟩) ?_ ?_
          rotate_left
          · intro w'
            go_simp
            with_reducible rfl
          rotate_left
          · simp only [Act.put, List.setIfInBounds_toArray, List.set_cons_zero, List.set_cons_succ, i64_w, i32_w]
            rfl
          refine pure_ (i := 4) (N := some 101) (v := ?_) (a' := ?_) #[true, false, true, false, true, false, false, false, false, false, false, false, false, false, false] rfl rfl (by kernel_rfl) (fun _ _ _ h => h) (Or.inl ⟨by rfl, ?_⟩) ?_ ?_
          rotate_left
          · intro w'
            go_simp
            with_reducible rfl
          rotate_left
          · simp only [Act.put, List.setIfInBounds_toArray, List.set_cons_zero, List.set_cons_succ, i64_w, i32_w]
            rfl
          refine pure_ (i := 9) (N := some 106) (v := ?_) (a' := ?_) #[true, false, true, false, true, false, false, false, false, true, false, false, false, false, false] rfl rfl (by kernel_rfl) (fun _ _ _ h => h) (Or.inl ⟨by rfl, ?_⟩) ?_ ?_
          rotate_left
          · intro w'
            go_simp
            with_reducible rfl
          rotate_left
          · simp only [Act.put, List.setIfInBounds_toArray, List.set_cons_zero, List.set_cons_succ, i64_w, i32_w]
            rfl
          refine take_ (i := 1) (N := some 98) (v := ?_) (a' := ?_) #[true, true, true, false, true, false, false, false, false, true, false, false, false, false, false] rfl rfl (by kernel_rfl) (fun _ _ _ h => h) (Or.inl ⟨by rfl, ?_⟩) hHeld ?_ ?_
          rotate_left
          · rintro w' ⟨s0, s1, s2⟩
            go_simp
            with_reducible rfl
          rotate_left
          · simp only [Act.put, List.setIfInBounds_toArray, List.set_cons_zero, List.set_cons_succ, i64_w, i32_w]
            rfl
          refine take_ (i := 3) (N := some 100) (v := ?_) (a' := ?_) #[true, true, true, true, true, false, false, false, false, true, false, false, false, false, false] rfl rfl (by kernel_rfl) (fun _ _ _ h => h) (Or.inl ⟨by rfl, ?_⟩) hHeld ?_ ?_
          rotate_left
          · rintro w' ⟨s0, s1, s2⟩
            go_simp
            with_reducible rfl
          rotate_left
          · simp only [Act.put, List.setIfInBounds_toArray, List.set_cons_zero, List.set_cons_succ, i64_w, i32_w]
            rfl
          refine take_ (i := 5) (N := some 102) (v := ?_) (a' := ?_) #[true, true, true, true, true, true, false, false, false, true, false, false, false, false, false] rfl rfl (by kernel_rfl) (fun _ _ _ h => h) (Or.inl ⟨by rfl, ?_⟩) hHeld ?_ ?_
          rotate_left
          · rintro w' ⟨s0, s1, s2⟩
            go_simp
            with_reducible rfl
          rotate_left
          · simp only [Act.put, List.setIfInBounds_toArray, List.set_cons_zero, List.set_cons_succ, i64_w, i32_w]
            rfl
          refine take_ (i := 8) (N := some 105) (v := ?_) (a' := ?_) #[true, true, true, true, true, true, false, false, true, true, false, false, false, false, false] rfl rfl (by kernel_rfl) (fun _ _ _ h => h) (Or.inl ⟨by rfl, ?_⟩) hHeld ?_ ?_
          rotate_left
          · rintro w' ⟨s0, s1, s2⟩
            go_simp
            with_reducible rfl
          rotate_left
          · simp only [Act.put, List.setIfInBounds_toArray, List.set_cons_zero, List.set_cons_succ, i64_w, i32_w]
            rfl
          refine take_ (i := 10) (N := some 107) (v := ?_) (a' := ?_) #[true, true, true, true, true, true, false, false, true, true, true, false, false, false, false] rfl rfl (by kernel_rfl) (fun _ _ _ h => h) (Or.inl ⟨by rfl, ?_⟩) hHeld ?_ ?_
          rotate_left
          · rintro w' ⟨s0, s1, s2⟩
            go_simp
            with_reducible rfl
          rotate_left
          · simp only [Act.put, List.setIfInBounds_toArray, List.set_cons_zero, List.set_cons_succ, i64_w, i32_w]
            rfl
          refine one_ (i := 6) (N := some 103) #[true, true, true, true, true, true, true, false, true, true, true, false, false, false, false] rfl rfl (by kernel_rfl) (by decide) (fun K hK => ?_)
          refine goes_ Try.func78 (by kernel_rfl) rfl #[.int .u64 y] (by rfl) rfl rfl (by simp only [List.map_toArray, List.map_cons, List.map_nil]; rfl) ?_
          with_reducible refine (eight_calls wa.drew y HPY.out.n0 HPY.out.n1).mono ?_
          rintro e v5 ⟨g5, c5, rfl, hc5, hr5, hg5, hb5⟩
          refine ⟨_, rfl, ?_⟩
          have HR5 := Aside0.mk hr5
          have HG5 := Aside0.mk hg5
          have HB5a := Aside0.mk hb5
          have i0 := bel_cell hb5 hHeld.1
          have i1 := bel_cell hb5 hHeld.2.1
          have i2 := bel_cell hb5 hHeld.2.2
          clear hc5 hr5 hg5 hb5
          refine hK.out _ _ ⟨i0, i1, i2⟩ (fun hHeld => ?_)
          clear hK K
          refine norm_ (a' := ?_) ?_ ?_
          rotate_left
          · show Act.put _ (some 103) _ = _
            simp only [Act.put, List.setIfInBounds_toArray, List.set_cons_zero, List.set_cons_succ, i64_w, i32_w]
            rfl
          refine one_ (i := 7) (N := some 104) #[true, true, true, true, true, true, true, true, true, true, true, false, false, false, false] rfl rfl (by kernel_rfl) (by decide) (fun K hK => ?_)
          refine goes_ Try.func77 (by kernel_rfl) rfl #[.pointer (some ⟨q, 0, none⟩), .int .i64 (i : Int), .slice (some ⟨g5, 0, none⟩) 8 c5] (by rfl) rfl rfl (by simp only [List.map_toArray, List.map_cons, List.map_nil]; rfl) ?_
          with_reducible refine (mkwrW_calls v5 q i (some ⟨g5, 0, none⟩) 8 c5).mono ?_
          rintro e v6 ⟨f1, f2, f3, rfl, hm6, hb6⟩
          refine ⟨_, rfl, ?_⟩
          have HMa := Aside0.mk hm6
          have HR6 := Aside0.mk (HR5.out.below hb6)
          have HB6a := Aside0.mk (bel_step HB5a.out hb6)
          have HV56 := Aside0.mk hb6
          have j0 := bel_cell hb6 i0
          have j1 := bel_cell hb6 i1
          have j2 := bel_cell hb6 i2
          clear hm6 hb6
          refine hK.out _ _ ⟨j0, j1, j2⟩ (fun hHeld => ?_)
          clear hK K
          refine norm_ (a' := ?_) ?_ ?_
          rotate_left
          · show Act.put _ (some 104) _ = _
            simp only [Act.put, List.setIfInBounds_toArray, List.set_cons_zero, List.set_cons_succ, i64_w, i32_w]
            rfl
          refine one_ (i := 11) (N := some 108) #[true, true, true, true, true, true, true, true, true, true, true, true, false, false, false] rfl rfl (by kernel_rfl) (by decide) (fun K hK => ?_)
          refine goes_ Try.func79 (by kernel_rfl) rfl #[.pointer (some ⟨q, 0, none⟩), .int .i64 (i : Int), .int .i64 1] (by rfl) rfl rfl (by simp only [List.map_toArray, List.map_cons, List.map_nil]; rfl) ?_
          with_reducible refine (mkflW_calls v6 q i 1).mono ?_
          rintro e v7b ⟨f4, f5, f6, rfl, hm7, hb7⟩
          refine ⟨_, rfl, ?_⟩
          have HMb := Aside0.mk hm7
          have HR7 := Aside0.mk (HR6.out.below hb7)
          have HB7a := Aside0.mk (bel_step HB6a.out hb7)
          have HV67 := Aside0.mk hb7
          have k0 := bel_cell hb7 j0
          have k1 := bel_cell hb7 j1
          have k2 := bel_cell hb7 j2
          clear hm7 hb7
          refine hK.out _ _ ⟨k0, k1, k2⟩ (fun hHeld => ?_)
          clear hK K
          refine norm_ (a' := ?_) ?_ ?_
          rotate_left
          · show Act.put _ (some 108) _ = _
            simp only [Act.put, List.setIfInBounds_toArray, List.set_cons_zero, List.set_cons_succ, i64_w, i32_w]
            rfl
          refine one_ (i := 12) (N := some 109) #[true, true, true, true, true, true, true, true, true, true, true, true, true, false, false] rfl rfl (by kernel_rfl) (by decide) (fun K hK => ?_)
          refine value_ (w1 := ?_) (v := ?_) (by rfl) rfl ?_ ?_
          rotate_left 2
          · go_simp
            constructor
            · rfl
            · rfl
          have HBL := Aside0.mk (below_alloc (Below.refl v7b.heap.size v7b) (.cells #[encW (.wr f1 f2 f3), encW (.fl f4 f5 f6)] 1))
          refine hK.out _ _ ⟨(bel_cell HBL.out k0), (bel_cell HBL.out k1), (bel_cell HBL.out k2)⟩ (fun hHeld => ?_)
          clear hK K
          refine norm_ (a' := ?_) ?_ ?_
          rotate_left
          · show Act.put _ (some 109) _ = _
            simp only [Act.put, List.setIfInBounds_toArray, List.set_cons_zero, List.set_cons_succ, i64_w, i32_w]
            rfl
          refine last_ (i := 13) (N := some 110) #[true, true, true, true, true, true, true, true, true, true, true, true, true, true, false] rfl rfl (by kernel_rfl) (by decide) (fun K hK => ?_)
          refine appW_step (by rfl) (.tmp 97) (.tmp 109) rfl n0 W.heap.size q p u6 ys [.wr f1 f2 f3, .fl f4 f5 f6] (ms3 ++ stepE (sets.take t)) [.wr (8 * i) (leB y 8), .fl (8 * i) (8 * 1)] (some ⟨v7b.heap.size, 0, none⟩) 2 2 rfl rfl rfl (w0 := W) ?hA ?hB ?hC ?hD ?hE ?_
          case hA => exact HYA.out.move (bel_step HB7a.out HBL.out) (Nat.le_trans HY.out.bel.size HBA.out.size)
          case hB => exact litW_steps (xs := [.wr f1 f2 f3, .fl f4 f5 f6]) (by simp)
          case hC => exact ⟨isW_wr HMa.out (bel_step HV67.out HBL.out) (fun b hb => TW.new HYA.out (Nat.le_trans hn0 (Nat.le_trans HY.out.bel.size HBA.out.size)) (Nat.le_trans HB5a.out.size hb)) (TW.new HYA.out (Nat.le_trans hn0 (Nat.le_trans HY.out.bel.size HBA.out.size)) HG5.out) hi8 (leB_length y 8) (HR7.out.below HBL.out), isW_fl HMb.out HBL.out (fun b hb => TW.new HYA.out (Nat.le_trans hn0 (Nat.le_trans HY.out.bel.size HBA.out.size)) (Nat.le_trans HB6a.out.size hb)) hi8 (by decide), trivial⟩
          case hD => exact Nat.le_trans (Nat.le_trans HY.out.bel.size HBA.out.size) (bel_step HB7a.out HBL.out).size
          case hE => have := HLY.out; simp; omega
          intro v7 w9 hw9
          have HW9 := Aside0.mk hw9
          clear hw9
          refine hK.out _ _ ?_
          clear hK K
          refine norm_ (a' := ?_) ?_ ?_
          rotate_left
          · show Act.put _ (some 110) _ = _
            simp only [Act.put, List.setIfInBounds_toArray, List.set_cons_zero, List.set_cons_succ, i64_w, i32_w]
            rfl
          refine pure_ (i := 14) (N := some 6) (v := ?_) (a' := ?_) #[true, true, true, true, true, true, true, true, true, true, true, true, true, true, true] rfl rfl (by kernel_rfl) (fun _ _ _ h => h) (Or.inl ⟨by rfl, ?_⟩) ?_ ?_
          rotate_left
          · intro w'
            go_simp
            with_reducible rfl
          rotate_left
          · simp only [Act.put, List.setIfInBounds_toArray, List.set_cons_zero, List.set_cons_succ, i64_w, i32_w]
            rfl
          refine done_ (by kernel_rfl) ?_
          go_wp2_with fail
          go_roundw
          case rel => exact ⟨t + 1, ys ++ [.wr f1 f2 f3, .fl f4 f5 f6], by omega, by go_num, ⟨by rw [HTK.out, HST.out, ← List.append_assoc]; exact HW9.out⟩⟩
          case measure => simp [intOf]; omega
        · obtain rfl : t = sets.length := by omega
          have HYF := Aside0.mk (show HasW W wr n0 W.heap.size q p u6 ys (ms3 ++ stepE sets) from by have := HY.out; rwa [List.take_of_length_le (Nat.le_refl _)] at this)
          have HCF := Aside0.mk (HC.out.below HYF.out.bel)
          have r6 := HCF.out.xl
          have r7 := HCF.out.x0
          have HWM := Aside0.mk (show walS a h b sets = ms3 ++ stepE sets ++ [.fe] by rw [HWS.out, HMS.out])
          have HLY := Aside0.mk (show ys.length ≤ 25000 by have := HYF.out.all.len; rw [this, List.length_append, stepE_length]; have := HML.out; omega)
          obtain ⟨zs, hzs⟩ : ∃ zs, zs = ys ++ [StepW.fe p] := ⟨_, rfl⟩
          have HZS := Aside0.mk hzs
          have hz1 : zs.length = ys.length + 1 := by rw [hzs]; simp
          have hz2 := HLY.out
          have hz0 : 0 < zs.length := by omega
          have hz9 : zs.length ≤ 25001 := by omega
          clear hzs hz1 hz2
          go_wp2_with (((with_reducible refine gate_bi (b := .append) (xs := #[.tmp 112, .tmp 118]) rfl ?_); go_must (refine appW_list rfl (.tmp 112) (.tmp 118) rfl n0 W.heap.size q p u6 ys [.fe p] (ms3 ++ stepE sets) [.fe] (some ⟨wr.heap.size, 0, none⟩) 1 1 rfl rfl rfl (w0 := W) (HYF.out.move (below_alloc (Below.refl _ _) _) HYF.out.bel.size) (litW_steps (xs := [.fe p]) (by simp)) ⟨rfl, trivial⟩ (Nat.le_trans HYF.out.bel.size (by simp)) (by have := HLY.out; simp; omega) ?_); intro v10 w10 hw10; have HW10 := Aside0.mk (show HasW W w10 n0 W.heap.size q p v10 zs (walS a h b sets) from by (rw [HZS.out, HWM.out]; exact hw10)); clear hw10; obtain ⟨g10, c10, rfl, hg10, hce10⟩ := rowW_cell HW10.out.row hz0; have HG10 := Aside0.mk hg10; have HCE := Aside0.mk hce10; clear hg10 hce10))
          have HB10 := Aside0.mk ((HW10.out.bel.block B HBX.out.lt).trans HBX.out : Boxed w10 B 82 (.slice none 0 0))
          obtain ⟨Ms, hMs⟩ : ∃ Ms, Ms = walS a h b sets := ⟨_, rfl⟩
          rw [← hMs] at HW10
          have HMS2 := Aside0.mk hMs
          have HLZ := Aside0.mk HW10.out.all.len
          have HE10 := Aside0.mk (show HeldW n0 B q p g10 zs Ms w10 from ⟨⟨_, HB10.out, by simp [Value.ownBlock], HW10.out.all.monoN (fun b2 o u hu hc ht => ⟨ht.1, fun e => by subst e; exact hu (boxed_cell HB10.out hc).2, by simp [Value.ownBlock]⟩)⟩, HCE.out, fun e => by have := HBX.out.lt; have := HG10.out; omega⟩)
          have HGL := Aside0.mk (show g10 < w10.heap.size from (rowW_base HW10.out.row (b := g10) rfl).2)
          have HJ10 := Aside0.mk (HJ.out [] _ _ HJ0.out HW10.out.bel)
          clear hMs r6 r7
          go_loopw [121] (fun i wr => ∃ t : Nat, t ≤ zs.length ∧ i = .int .i64 (t : Int) ∧ Aside0 (J ((zs.zip Ms).take t) wr) ∧ Aside0 (HeldW n0 B q p g10 zs Ms wr) ∧ Aside0 (g10 < wr.heap.size)) (fun i _ => (zs.length - intOf i).toNat)
          case atStart => exact ⟨0, Nat.zero_le _, rfl, HJ10, HE10, HGL⟩
          case round =>
            obtain ⟨t, ht, rfl, HJt, HH, HG⟩ := hrel
            by_cases hlt3 : t < zs.length
            · obtain ⟨x, hx⟩ : ∃ x, zs[t]? = some x := ⟨_, List.getElem?_eq_getElem hlt3⟩
              have hcx := HH.out.row t x hx
              obtain ⟨y, hy, hz⟩ := HH.out.told hx
              have hzp : (zs.zip Ms)[t]? = some (x, y) := List.getElem?_zip_eq_some.2 ⟨hx, hy⟩
              have HZT := Aside0.mk (show (zs.zip Ms).take (t + 1) = (zs.zip Ms).take t ++ [(x, y)] by rw [List.take_add_one, hzp]; rfl)
              obtain ⟨fn, tmps, assign, body, hyr, hR⟩ := HY2.out _ (x, y) wr HJt.out hz (by rw [List.length_take]; omega)
              clear hx hy hz hzp
              refine (wpIn_wide (n := n)).1 ?_
              gi_wp2
              refine hR.mono ?_
              rintro e W3 ⟨rfl, hJ3, hk3⟩
              have HJ3 := Aside0.mk hJ3
              have HH3 := Aside0.mk (HH.out.kept hk3 HG.out)
              have HG3 := Aside0.mk (show g10 < W3.heap.size from by obtain ⟨v, hv, _⟩ := HH.out.ex; obtain ⟨_, _, hf, _⟩ := hk3 v hv; exact Nat.lt_of_lt_of_le HG.out hf.size)
              clear hJ3 hk3 hR hyr hcx
              gi_wp2
              go_roundw
              case rel => exact ⟨t + 1, by omega, by go_num, ⟨by rw [HZT.out]; exact HJ3.out⟩, HH3, HG3⟩
              case measure => simp [intOf]; omega
            · obtain rfl : t = zs.length := by omega
              go_wp2
              go_end0
              refine ⟨⟨_, rfl⟩, zs.zip Ms, ?_, ?_⟩
              · rw [← HMS2.out]
                exact List.map_snd_zip (by have := HLZ.out; omega)
              · have := HJt.out
                rwa [List.take_of_length_le (by rw [List.length_zip]; have := HLZ.out; omega)] at this
end Go.Proofs.Ytbfogcckbhkciaa.Hand
namespace Go.Proofs.Ytbfogcckbhkciaa.Hand
attribute [local go_sem] Oper.semAt_some
open Go.RowKit Go.Maps Go.Proofs.YtbfogcckbhkciaaW.PrintWords Go.Proofs.YtbfogcckbhkciaaW.PrintLast
set_option linter.unusedVariables false
set_option linter.unusedSimpArgs false
/-- Why sets can't be brought; 0: they can. -/
def errW (n a k nx : Nat) (sets : List SetT) : Int := if (sets.all fun s => mayB n a k s.1) = false then 1 else if sets = [] then 1 else if (k - 1) / 2 < sets.length ∨ 4294967295 < nx then 40 else 0
theorem errW_ok {n a k nx : Nat} {sets : List SetT} (h : errW n a k nx sets = 0) : (∀ s ∈ sets, mayB n a k s.1 = true) ∧ 0 < sets.length ∧ sets.length ≤ (k - 1) / 2 ∧ nx ≤ 4294967295 := by
  unfold errW at h
  split at h
  · omega
  · rename_i h1
    split at h
    · omega
    · rename_i h2
      split at h
      · omega
      · rename_i h3
        rw [Bool.not_eq_false, List.all_eq_true] at h1
        exact ⟨h1, (List.length_pos_iff.2 h2), by omega, by omega⟩
set_option maxRecDepth 100000 in
set_option maxHeartbeats 4000000 in
theorem begin4_may (w : World) (q p : Nat) (v : Value) (s f : Nat) (d : Dev) (a k nx : Nat) (A : Option Addr) (c : Nat) (sets : List SetT) (hd : HasD w p v s f d) (h : HasL w q p a k nx) (h1 : 1 ≤ k) (hak : a + k ≤ d.B.length / 8) (hs : SetK.C w A sets.length sets) (hb : (sets.all fun s => mayB (d.B.length / 8) a k s.1) = false) : Calls Try.prog 47 #[.pointer (some ⟨q, 0, none⟩), .slice A sets.length c] w fun e w' => e = .returned (.tuple #[.slice none 0 0, .int .i64 1]) ∧ Below w.heap.size w w' := by
  (have hm := hd.ok.max; obtain ⟨n, hn⟩ : ∃ n : Nat, n = d.B.length / 8 := ⟨_, rfl⟩; have HMY := Aside0.mk (fun (W : World) (x : SetT) (hh : HasD W p v s f d) (hl : HasL W q p a k nx) => may_calls W q p v s f d a k nx x hh hl (by omega)); rw [← hn] at HMY; have HD := Aside0.mk hd; have HL := Aside0.mk h; have HC := Aside0.mk hs; have HRM := Aside0.mk (fun (W : World) (hl : HasL W q p a k nx) => room4_calls W q p a k nx hl h1 (by omega)); have hsl := hs.2.1)
  rw [← hn] at hb
  have HBAD := Aside0.mk hb
  clear hd h hs hn hb
  go_enter Try.func47, Try.ntmps47
  go_wp2
  go_loopw [14] (fun i wr => ∃ t : Nat, t ≤ sets.length ∧ i = .int .i64 (t : Int) ∧ Aside0 (∀ j, j < t → ∀ x, sets[j]? = some x → mayB n a k x.1 = true) ∧ Aside0 (Below w.heap.size w wr)) (fun i _ => (sets.length - intOf i).toNat)
  case atStart => exact ⟨0, Nat.zero_le _, rfl, ⟨fun j hj => absurd hj (Nat.not_lt_zero _)⟩, ⟨Below.refl _ _⟩⟩
  case round =>
    obtain ⟨t, ht, rfl, HO, HB⟩ := hrel
    by_cases hlt : t < sets.length
    · (obtain ⟨x, hx⟩ : ∃ x, sets[t]? = some x := ⟨_, List.getElem?_eq_getElem hlt⟩; obtain ⟨bb, ob, hA, hcb⟩ := C_at (Kd.C_below HC.out HB.out) (by decide) hx; obtain ⟨x, y⟩ := x; have b0 : wr.cell? ⟨bb, ob + t * 2, none⟩ = some (.int .i64 x) := hcb 0 (by decide); have b1 : wr.cell? ⟨bb, ob + t * 2 + 1, none⟩ = some (.int .u64 y) := hcb 1 (by decide); subst hA; clear hcb)
      cases hmy : mayB n a k x with
      | true =>
        have HOK := Aside0.mk (show ∀ j, j < t + 1 → ∀ z, sets[j]? = some z → mayB n a k z.1 = true from fun j hj z hz => by
          rcases Nat.lt_or_ge j t with h | h
          · exact HO.out j h z hz
          · obtain rfl : j = t := by omega
            rw [hx] at hz
            obtain rfl := Option.some.inj hz
            exact hmy)
        clear hx
        go_wp2_with (go_at_call 85; ((with_reducible refine (HMY.out _ (x, y) (HD.out.move (below_alloc HB.out _)) (HL.out.below (below_alloc HB.out _))).mono ?_); rintro e w7 ⟨rfl, hb7⟩; have HB7 := Aside0.mk (bel_step (below_alloc HB.out _) hb7); clear hb7))
        go_roundw
        case rel => exact ⟨t + 1, by omega, by go_num, HOK, HB7⟩
        case measure => simp [intOf]; omega
      | false =>
        clear hx
        go_wp2_with (go_at_call 85; ((with_reducible refine (HMY.out _ (x, y) (HD.out.move (below_alloc HB.out _)) (HL.out.below (below_alloc HB.out _))).mono ?_); rintro e w7 ⟨rfl, hb7⟩; have HB7 := Aside0.mk (bel_step (below_alloc HB.out _) hb7); clear hb7))
        go_ret2
        exact ⟨rfl, HB7.out⟩
    · exfalso
      have := HBAD.out
      rw [List.all_eq_false] at this
      obtain ⟨x, hx, hn⟩ := this
      obtain ⟨j, hj⟩ := List.getElem?_of_mem hx
      have := HO.out j (by have := (List.getElem?_eq_some_iff.1 hj).1; omega) x hj
      exact hn this
set_option maxRecDepth 100000 in
set_option maxHeartbeats 4000000 in
theorem begin4_none (w : World) (q p : Nat) (v : Value) (s f : Nat) (d : Dev) (a k nx : Nat) (A : Option Addr) (c : Nat) (sets : List SetT) (hd : HasD w p v s f d) (h : HasL w q p a k nx) (h1 : 1 ≤ k) (hak : a + k ≤ d.B.length / 8) (hs : SetK.C w A sets.length sets) (hs0 : sets = []) : Calls Try.prog 47 #[.pointer (some ⟨q, 0, none⟩), .slice A sets.length c] w fun e w' => e = .returned (.tuple #[.slice none 0 0, .int .i64 1]) ∧ Below w.heap.size w w' := by
  (have hm := hd.ok.max; obtain ⟨n, hn⟩ : ∃ n : Nat, n = d.B.length / 8 := ⟨_, rfl⟩; have HMY := Aside0.mk (fun (W : World) (x : SetT) (hh : HasD W p v s f d) (hl : HasL W q p a k nx) => may_calls W q p v s f d a k nx x hh hl (by omega)); rw [← hn] at HMY; have HD := Aside0.mk hd; have HL := Aside0.mk h; have HC := Aside0.mk hs; have HRM := Aside0.mk (fun (W : World) (hl : HasL W q p a k nx) => room4_calls W q p a k nx hl h1 (by omega)); have hsl := hs.2.1)
  subst hs0
  clear hd h hs hn
  go_enter Try.func47, Try.ntmps47
  go_wp2
  go_loopw [14] (fun i wr => i = .int .i64 0 ∧ Aside0 (Below w.heap.size w wr)) (fun i _ => 0)
  case atStart => exact ⟨rfl, ⟨Below.refl _ _⟩⟩
  case round =>
    obtain ⟨rfl, HB⟩ := hrel
    go_wp2
    go_ret2
    exact ⟨rfl, HB.out⟩
set_option maxRecDepth 100000 in
set_option maxHeartbeats 4000000 in
theorem begin4_full (w : World) (q p : Nat) (v : Value) (s f : Nat) (d : Dev) (a k nx : Nat) (A : Option Addr) (c : Nat) (sets : List SetT) (hd : HasD w p v s f d) (h : HasL w q p a k nx) (h1 : 1 ≤ k) (hak : a + k ≤ d.B.length / 8) (hs : SetK.C w A sets.length sets) (hall : ∀ s ∈ sets, mayB (d.B.length / 8) a k s.1 = true) (hs0 : 0 < sets.length) (hf : (k - 1) / 2 < sets.length ∨ 4294967295 < nx) : Calls Try.prog 47 #[.pointer (some ⟨q, 0, none⟩), .slice A sets.length c] w fun e w' => e = .returned (.tuple #[.slice none 0 0, .int .i64 40]) ∧ Below w.heap.size w w' := by
  (have hm := hd.ok.max; obtain ⟨n, hn⟩ : ∃ n : Nat, n = d.B.length / 8 := ⟨_, rfl⟩; have HMY := Aside0.mk (fun (W : World) (x : SetT) (hh : HasD W p v s f d) (hl : HasL W q p a k nx) => may_calls W q p v s f d a k nx x hh hl (by omega)); rw [← hn] at HMY; have HD := Aside0.mk hd; have HL := Aside0.mk h; have HC := Aside0.mk hs; have HRM := Aside0.mk (fun (W : World) (hl : HasL W q p a k nx) => room4_calls W q p a k nx hl h1 (by omega)); have hsl := hs.2.1)
  rw [← hn] at hall
  have HALL := Aside0.mk hall
  obtain ⟨r, hr⟩ : ∃ r : Nat, r = (k - 1) / 2 := ⟨_, rfl⟩
  rw [← hr] at hf HRM
  have hr9 : r ≤ 8192 := by omega
  clear hd h hs hn hall hr
  rcases (show r < sets.length ∨ (sets.length ≤ r ∧ 4294967295 < nx) by omega) with z1 | ⟨z1, z2⟩
  all_goals
    clear hf
    go_enter Try.func47, Try.ntmps47
    go_wp2
    (go_loopw [14] (fun i wr => ∃ t : Nat, t ≤ sets.length ∧ i = .int .i64 (t : Int) ∧ Aside0 (Below w.heap.size w wr)) (fun i _ => (sets.length - intOf i).toNat))
    case atStart => exact ⟨0, Nat.zero_le _, rfl, ⟨Below.refl _ _⟩⟩
    case round =>
      obtain ⟨t, ht, rfl, HB⟩ := hrel
      by_cases hlt : t < sets.length
      · (obtain ⟨x, hx⟩ : ∃ x, sets[t]? = some x := ⟨_, List.getElem?_eq_getElem hlt⟩; obtain ⟨bb, ob, hA, hcb⟩ := C_at (Kd.C_below HC.out HB.out) (by decide) hx; obtain ⟨x, y⟩ := x; have b0 : wr.cell? ⟨bb, ob + t * 2, none⟩ = some (.int .i64 x) := hcb 0 (by decide); have b1 : wr.cell? ⟨bb, ob + t * 2 + 1, none⟩ = some (.int .u64 y) := hcb 1 (by decide); subst hA; clear hcb)
        have hmy : mayB n a k x = true := HALL.out _ (List.mem_of_getElem? hx)
        clear hx
        go_wp2_with (go_at_call 85; ((with_reducible refine (HMY.out _ (x, y) (HD.out.move (below_alloc HB.out _)) (HL.out.below (below_alloc HB.out _))).mono ?_); rintro e w7 ⟨rfl, hb7⟩; have HB7 := Aside0.mk (bel_step (below_alloc HB.out _) hb7); clear hb7))
        go_roundw
        case rel => exact ⟨t + 1, by omega, by go_num, HB7⟩
        case measure => simp [intOf]; omega
      · obtain rfl : t = sets.length := by omega
        have c3 := (HL.out.below HB.out).cells.2.2.2
        go_wp2_with (go_at_call 45; ((with_reducible refine (HRM.out _ (HL.out.below HB.out)).mono ?_); rintro e w4 ⟨rfl, rfl⟩))
        go_ret2
        exact ⟨rfl, HB.out⟩
theorem begin4_bad (w : World) (q p : Nat) (v : Value) (s f : Nat) (d : Dev) (a k nx : Nat) (A : Option Addr) (c : Nat) (sets : List SetT) (hd : HasD w p v s f d) (h : HasL w q p a k nx) (h1 : 1 ≤ k) (hak : a + k ≤ d.B.length / 8) (hs : SetK.C w A sets.length sets) (he : errW (d.B.length / 8) a k nx sets ≠ 0) : Calls Try.prog 47 #[.pointer (some ⟨q, 0, none⟩), .slice A sets.length c] w fun e w' => e = .returned (.tuple #[.slice none 0 0, .int .i64 (errW (d.B.length / 8) a k nx sets)]) ∧ Below w.heap.size w w' := by
  by_cases h1x : (sets.all fun s => mayB (d.B.length / 8) a k s.1) = false
  · rw [errW, if_pos h1x]
    exact begin4_may w q p v s f d a k nx A c sets hd h h1 hak hs h1x
  · by_cases h2 : sets = []
    · rw [errW, if_neg h1x, if_pos h2]
      exact begin4_none w q p v s f d a k nx A c sets hd h h1 hak hs h2
    · by_cases h3 : (k - 1) / 2 < sets.length ∨ 4294967295 < nx
      · rw [errW, if_neg h1x, if_neg h2, if_pos h3]
        refine begin4_full w q p v s f d a k nx A c sets hd h h1 hak hs ?_ ((List.length_pos_iff.2 h2)) h3
        rw [Bool.not_eq_false, List.all_eq_true] at h1x
        exact h1x
      · exact absurd (by rw [errW, if_neg h1x, if_neg h2, if_neg h3]) he
end Go.Proofs.Ytbfogcckbhkciaa.Hand
