/- What a claim needs of the walks and contracts, part T2. -/
import Derived.Test.YtliclajcifeneaaHandGT1
namespace Go.Proofs.Ytliclajcifeneaa.Hand
set_option linter.unusedVariables false
set_option linter.unusedSimpArgs false
open Go.RowKit Go.Maps Go.Sort Go.Shelf Go.Proofs.YtliclajcifeneaaW.PrintWords Go.Proofs.Ytliclajcifeneaa.PHandRR
set_option linter.unusedVariables false
set_option linter.unusedSimpArgs false
theorem few_row (w : World) (A : Option Addr) (d : Nat) (os : List S31) (h : OpsR w A d os) : Calls Try.prog 11 #[.slice A os.length d] w fun e w' => e = .returned (.bool (fewR os)) ∧ Below w.heap.size w w' :=
  ecdysislaw13_few.calls (os.length + 1) A d os (fewR os) w h.row h.cap (few_f os (by have := h.len; omega) h.each)
/-- A call of a script in memory. -/
theorem op_at {w : World} {A : Option Addr} {d : Nat} {os : List S31} (h : OpsR w A d os) {t : Nat} {k a b : Int} {x : ByteArray} (hq : os[t]? = some ⟨k, x, ⟨a, b⟩⟩) :
    ∃ ad , A = some ad ∧ w.cell? (ad.add (t * 4)) = some (.int .i64 k) ∧ w.cell? ⟨(ad.add (t * 4)).block, (ad.add (t * 4)).off + 1, none⟩ = some (.string x) ∧ w.cell? ⟨(ad.add (t * 4)).block, (ad.add (t * 4)).off + 2, none⟩ = some (.int .i64 a) ∧ w.cell? ⟨(ad.add (t * 4)).block, (ad.add (t * 4)).off + 3, none⟩ = some (.int .i64 b) := by
  have hlt := (List.getElem?_eq_some_iff.1 hq).1
  have := at_T31 h.row (t : Int) (by omega) (by omega)
  rw [show rd_T31 os (t : Int) = ⟨k, x, ⟨a, b⟩⟩ by simp [rd_T31, List.getD_eq_getElem?_getD, hq], Int.toNat_natCast] at this
  exact this
/-- The document's roots in a variable. -/
def RefR (w : World) (base p s : Nat) (u : Value) (L : List Rt) : Prop := Kd.R k66 66 w base (fun k => k ≠ p ∧ k ≠ s ∧ k < w.heap.size) u (toS L)
theorem RefR.nil (w : World) (base p s : Nat) : RefR w base p s (.slice none 0 0) [] := Kd.R_nil _ _ _ _ _
theorem RefR.old {w : World} {base p s : Nat} {u : Value} {L : List Rt} (h : RefR w base p s u L) {w1 : World} (hb : Below w.heap.size w w1) : Kd.R k66 66 w1 base (fun k => k ≠ p ∧ k ≠ s ∧ k < w.heap.size) u (toS L) := Kd.R_below h hb
theorem RefR.of {w w1 : World} {base p s : Nat} {ok : Nat → Prop} {u : Value} {L : List Rt} (h : Kd.R k66 66 w base ok u (toS L)) (hp : ¬ ok p) (hs : ¬ ok s) (hf : Fr (fun b => b = s) w w1) : RefR w1 base p s u L := by
  have h1 : Kd.R k66 66 w1 base ok u (toS L) := Kd.R_step h (fun k hk hlt => hf.block k hlt (fun e => hs (e ▸ hk)))
  refine Kd.R_mono (Kd.R_keptB h1 (Kept.refl w1 (fun k => k = p ∨ k = s)) (fun k hk e => by rcases e with e | e; exact hp (e ▸ hk); exact hs (e ▸ hk))) (fun k hk => ⟨fun e => hk.2.1 (Or.inl e), fun e => hk.2.1 (Or.inr e), hk.2.2⟩)
theorem RefR.below {w : World} {base p s : Nat} {u : Value} {L : List Rt} (h : RefR w base p s u L) {w1 : World} (hb : Below w.heap.size w w1) : RefR w1 base p s u L := Kd.R_mono (h.old hb) (fun k hk => ⟨hk.1, hk.2.1, Nat.lt_of_lt_of_le hk.2.2 hb.size⟩)
theorem RefR.reads {w : World} {base p s : Nat} {A : Option Addr} {n c : Nat} {L : List Rt} (h : RefR w base p s (.slice A n c) L) : Kd.C k66 w A L.length (toS L) ∧ L.length ≤ c := by
  obtain ⟨e, h1, h2⟩ := Kd.R_reads' h
  rw [toS_len] at e h2
  exact ⟨h2, e ▸ h1⟩
theorem do_row {w0 w : World} (hB : Below w0.heap.size w0 w) {P : Nat → Prop} {u : Value} {L : List Rt} (h : Kd.R k66 66 w w0.heap.size P u (toS L)) (hg : GoodR L) (k : Int) (x : ByteArray) (hx : x.size ≤ 50000) (a b : Int) {L' : List Rt} {c d e0 : Int} (hr : doE L k x.data.toList (a, b) = (L', (c, d), e0)) :
    Calls Try.prog 13 #[u, .agg #[.int .i64 k, .string x, .int .i64 a, .int .i64 b]] w fun e w' => ∃ v : Value, e = .returned (.tuple #[v, .agg #[.int .i64 c, .int .i64 d], .int .i64 e0]) ∧ Kd.R k66 66 w' w0.heap.size (fun k => P k ∨ w.heap.size ≤ k) v (toS L') ∧ Below w0.heap.size w0 w' ∧ Kept w w' P := by
  obtain ⟨n, hn⟩ := do_f L hg k x hx a b
  have := hn n (Nat.le_refl _)
  rw [hr] at this
  exact ecdysisref13_Do.calls n P u (toS L) k x a b (toS L') c d e0 w0 w hB h this
theorem does_row (w : World) (p s : Nat) (L : List Rt) (h : HasR w p s L) (k : Int) (x : ByteArray) (hx : x.size ≤ 50000) (a b : Int) {L' : List Rt} {c d e0 : Int} (hr : doE L k x.data.toList (a, b) = (L', (c, d), e0)) :
    Calls Try.prog 14 #[.pointer (some ⟨p, 0, none⟩), .agg #[.int .i64 k, .string x, .int .i64 a, .int .i64 b]] w fun e w' => e = .returned (.tuple #[.agg #[.int .i64 c, .int .i64 d], .int .i64 e0]) ∧ HasR w' p s L' ∧ Fr (fun b => b = s) w w' := by
  have := does_calls w p s L h k x (by unfold maxLen; omega) a b
  rw [hr] at this
  exact this
theorem HasR.kept {w w1 : World} {p s : Nat} {L : List Rt} (h : HasR w p s L) {P : Nat → Prop} (hk : Kept w w1 P) (hp : ¬ P p) (hs : ¬ P s) : HasR w1 p s L := h.same (hk.2 p h.p_lt hp) (hk.2 s h.s_lt hs)
end Go.Proofs.Ytliclajcifeneaa.Hand
namespace Go.Proofs.Ytliclajcifeneaa.Hand
set_option linter.unusedVariables false
set_option linter.unusedSimpArgs false
open Go.RowKit Go.Maps Go.Sort Go.Shelf Go.Proofs.YtliclajcifeneaaW.PrintWords Go.Proofs.Ytliclajcifeneaa.PHandRR
set_option linter.unusedVariables false
set_option linter.unusedSimpArgs false
set_option maxRecDepth 100000 in
open Go.ChangeShapes Go.WideShapes Go.ChangeAt in
theorem open_opR {H : Type} {enc : TypeId × Value → H} {w : World} {spare : Nat → Bool} {held : Bool} {r : Reach} {b0 : Nat} {v : Value} {d : DataW H} {ps : List MemPlace} {ts : List TypeId} {ds : List (DataW H)} {j : Nat}
    (hsz : (DataW.weightsEach Try.prog ts ds).all (· ≤ reachBytes) = true) (ht : ts[j]? = some 31) (hd : ds[j]? = some d)
    (hv : Value.okWide Try.prog w r b0 31 v) (h : DataW.Trod enc Try.prog w 0 spare held 31 v d ps) : ∃ x : S31, v = .agg #[.int .i64 x.f0, .string x.f1, .int .i64 x.f2.f0, .int .i64 x.f2.f1] ∧ x.f1.size ≤ 140737488351232 := by
  obtain ⟨cs, rfl, _⟩ := okWide_struct Try.underlying31 hv
  obtain ⟨fuel, hf⟩ := h
  obtain ⟨x, hx, hw⟩ := opR_el hf
  have hx2 : cs.toList = [.int .i64 x.f0, .string x.f1, .int .i64 x.f2.f0, .int .i64 x.f2.f1] := hx
  exact ⟨x, congrArg Value.agg (by rw [← hx2]), hw _ (fun k hk => by
    have := List.all_eq_true.1 hsz _ (DataW.weights_mem_each ht hd k hk)
    have h2 : k ≤ reachBytes := by simpa using this
    exact h2)⟩
theorem setE_cases (L : List Rt) (x : Nm) (h : Int × Int) : (∃ e, e ≠ 0 ∧ setE L x h = (L, e)) ∨ setE L x h = (putR L x h, 0) := by
  rw [setE]
  split
  · exact .inl ⟨1, by decide, rfl⟩
  · split
    · exact .inl ⟨131, by decide, rfl⟩
    · exact .inr rfl
theorem doE_get {L : List Rt} (hs : SortedR L) (k : Int) {x y : Nm} (hne : y ≠ x) (h : Int × Int) : getR (doE L k y h).1 x = getR L x := by
  rw [doE]
  split
  · rcases setE_cases L y h with ⟨e, _, he⟩ | he <;> rw [he]
    rw [getR_putR, if_neg hne]
  · split
    · rw [clearE]
      split
      · simp only [getR_delR hs, if_neg hne]
      · rfl
    · split <;> rfl
theorem doE_err (L : List Rt) (k : Int) (x : Nm) (h : Int × Int) {L' : List Rt} {c : Int × Int} {e : Int} (hr : doE L k x h = (L', c, e)) : e = 0 ∨ L' = L := by
  rw [doE] at hr
  split at hr
  · obtain ⟨rfl, h2⟩ := Prod.mk.inj hr
    obtain ⟨_, rfl⟩ := Prod.mk.inj h2
    rcases setE_cases L x h with ⟨e, _, he⟩ | he
    · right; rw [he]
    · left; rw [he]
  · split at hr
    · obtain ⟨rfl, h2⟩ := Prod.mk.inj hr
      obtain ⟨_, rfl⟩ := Prod.mk.inj h2
      rw [clearE]
      split
      · exact .inl rfl
      · exact .inr rfl
    · split at hr
      · exact .inr (Prod.mk.inj hr).1.symm
      · exact .inr (Prod.mk.inj hr).1.symm
theorem nm_data {x y : ByteArray} (h : x ≠ y) : x.data.toList ≠ y.data.toList := fun e => h (by
  rw [← nm_of x, ← nm_of y, e])
theorem HasR.sfr {w w1 : World} {p s : Nat} {L : List Rt} (h : HasR w p s L) {x : Nat} {o : Obj} (hf : Fr (fun b => b = s) w w1) (hx : w.heap[x]? = some o) (hne : x ≠ s) : w1.heap[x]? = some o := (hf.block x (blk_lt hx) hne).trans hx
end Go.Proofs.Ytliclajcifeneaa.Hand
