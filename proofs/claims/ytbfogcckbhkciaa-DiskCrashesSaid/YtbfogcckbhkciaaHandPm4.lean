/- Fence of a device. -/
import Derived.Test.YtbfogcckbhkciaaHandPm3
namespace Go.Proofs.Ytbfogcckbhkciaa.Hand
open Go.RowKit Go.Maps Go.Proofs.YtbfogcckbhkciaaW.PrintWords
set_option linter.unusedVariables false

def Dev.fence (d : Dev) : Dev := { B := d.B, S := fun j => if d.F j then none else d.S j, F := fun _ => false }
theorem Dev.Ok.fence {d : Dev} (h : d.Ok) : d.fence.Ok := by
  refine ⟨h.len, h.max, h.bys, fun j hj => ?_, fun j c hj => ?_, fun j hj => by cases hj⟩
  · refine h.dom j ?_
    simp only [Dev.fence] at hj
    split at hj
    · cases hj
    · exact hj
  · refine h.safe j c ?_
    simp only [Dev.fence] at hj
    split at hj
    · cases hj
    · exact hj
/-- What is safe where so many keys are still to come. -/
def fenS (d : Dev) (left : Lit → Bool) : Nat → Option (List Int) := fun j => if d.F j && !left (.int .i64 j) then none else d.S j
theorem fenS_start {d : Dev} {D : DataW Value} (h : Fits D (flF d.F)) : fenS d (has D) = d.S := by
  funext j
  rw [fenS, (h _).1, flF_nat]
  cases d.F j <;> simp
theorem fenS_end {d : Dev} {left : Lit → Bool} (h : ∀ kl, left kl = false) : fenS d left = d.fence.S := by
  funext j
  rw [fenS, h]
  simp [Dev.fence]
theorem fenS_step {d : Dev} {left : Lit → Bool} {k : Nat} (hk : d.F k = true) (x : Lit) : delF (safeF (fenS d left)) (.int .i64 k) x = safeF (fenS d (fun z => left z && !z.sameKey (.int .i64 k))) x := by
  by_cases hx : x = .int .i64 k
  · subst hx
    rw [delF, if_pos (sameKey_int _ _), safeF_nat]
    simp [fenS, hk, sameKey_int]
  · rw [delF, if_neg (by rw [sameKey_ne hx]; simp)]
    unfold safeF
    split
    · rename_i a
      split
      · rename_i ha
        have : (Lit.int .i64 a).sameKey (.int .i64 k) = false := sameKey_ne hx
        rw [fenS, fenS, Int.toNat_of_nonneg ha, this]
        simp
      · rfl
    · rfl
theorem held_inv {v : Value} {y : DataW Value × List MemPlace} (h : heldR v = some y) : y.1 = .held v := by
  simp only [heldR, Option.some.injEq] at h
  rw [← h]
/-- A key of the flushed words. -/
theorem fl_key {d : Dev} {D : DataW Value} (h : Fits D (flF d.F)) {kl : Lit} {v : Value} (hat : ∀ zd, D.atKey kl zd = .held v) : ∃ k : Nat, kl = .int .i64 k ∧ d.F k = true := by
  have := has_true_of_atKey hat
  rw [(h kl).1] at this
  exact flF_some this
theorem safe_key {S : Nat → Option (List Int)} {D : DataW Value} (h : Fits D (safeF S)) {kl : Lit} {v : Value} (hat : ∀ zd, D.atKey kl zd = .held v) : ∃ (k : Nat) (c : List Int), kl = .int .i64 k ∧ S k = some c ∧ v = cellV c := by
  have h1 := has_true_of_atKey hat
  rw [(h kl).1] at h1
  obtain ⟨k, rfl, hs⟩ := safeF_some h1
  obtain ⟨c, hc⟩ := Option.isSome_iff_exists.1 hs
  refine ⟨k, c, rfl, hc, ?_⟩
  have h2 := (h _).2 (cellV c) (getD_some8 hc) .nil
  rw [hat] at h2
  injection h2
set_option maxRecDepth 100000 in
theorem fence_calls (w : World) (p : Nat) (v : Value) (s f : Nat) (d : Dev) (h : HasD w p v s f d) :
    Calls Try.prog 24 #[.pointer (some ⟨p, 0, none⟩)] w fun e w' => e = .returned (.tuple #[]) ∧ HasD w' p v s f d.fence ∧ Fr (OwnD v s f) w w' := by
  have HH := Aside0.mk h
  have c2 := blk_cell h.ptr (i := 2) rfl
  obtain ⟨D, hD, hfit⟩ := h.fl
  have HD := Aside0.mk hD
  have HFIT := Aside0.mk hfit
  clear h hD hfit
  go_enter Try.func24, Try.ntmps24
  go_wp2_with (at_range; refine wpList_range_own _ rfl _ _ rfl 3 3 law_int Try.underlying111 heldR f _ D rfl HD.out ?_; intro w0 hrg0 hg0 hs0)
  go_frame
  have HRG0 := Aside0.mk hrg0
  have HG0 := Aside0.mk hg0
  have HS0 := Aside0.mk hs0
  have hfr0 : Fr (MapsD s f) w w0 := (Fr.refl _ _).grown hg0 (fun k hk => by cases hk)
  have HFR0 := Aside0.mk hfr0
  have HM0 := Aside0.mk (show MapF Try.prog 3 w0 s (safeF (fenS d (has D))) by rw [fenS_start HFIT.out]; exact HH.out.safe.kept hg0 (by simp))
  clear hrg0 hg0 hs0 hfr0 c2
  go_loopw [2] (fun _ wr => ∃ left cnt, Aside0 (wr.ranges Try.prog 3 heldR f w.heap.size (Maps.size D) D left cnt) ∧ Aside0 (MapF Try.prog 3 wr s (safeF (fenS d left))) ∧ Aside0 (Fr (fun b => b = s ∨ b = w.heap.size) w wr)) (fun _ wr => wr.rangeLeft f w.heap.size)
  case atStart => exact ⟨has D, Maps.size D, HRG0, HM0, ⟨(Fr.refl _ _).grown HG0.out (fun k hk => by cases hk)⟩⟩
  case round =>
    obtain ⟨left, cnt, HRG, HM, HFR⟩ := hrel
    have c1 := HFR.out.cell (blk_cell HH.out.ptr (i := 1) rfl) (fun e => by rcases e with e | e; exact HH.out.p_own (.inr (.inl e)); exact absurd HH.out.p_lt (by rw [show p = w.heap.size from e]; exact Nat.lt_irrefl _))
    have c2 := HFR.out.cell (blk_cell HH.out.ptr (i := 2) rfl) (fun e => by rcases e with e | e; exact HH.out.p_own (.inr (.inl e)); exact absurd HH.out.p_lt (by rw [show p = w.heap.size from e]; exact Nat.lt_irrefl _))
    go_wp2_with (at_next; refine wpList_next_ranges _ rfl _ rfl 3 law_int heldR (Value.int .i64) (fun (x : Value) => x) (fun key kl hkey => by obtain ⟨x, rfl, _⟩ := Maps.keyOf_int_inv Try.underlying3 hkey; exact ⟨x, rfl⟩) (fun u y hu => ⟨u, rfl⟩) f w.heap.size _ D left cnt rfl HRG.out ?_ ?_)
    · intro _ hl0
      have HE := Aside0.mk (fenS_end (d := d) hl0)
      clear hl0
      have HMF := Aside0.mk (MapF.of_own HRG.out.owns HFIT.out)
      go_wp2_with ((with_reducible refine gate_bi (b := .clear) (xs := #[.tmp 20]) rfl ?_); refine wpList_clear rfl (.tmp 20) 111 rfl Try.underlying111 rfl HMF.out ?_; intro w2 hm2 ht2)
      go_end0
      have hS := HH.out
      have hf2 : Fr (fun b => b = f) wr w2 := ht2.fr rfl
      have hfr : Fr (fun b => (b = s ∨ b = w.heap.size) ∨ b = f) w w2 := (HFR.out.mono (fun b hb => .inl hb)).trans' (hf2.mono (fun b hb => .inr hb))
      have hne : ∀ b, b ≠ s → b ≠ f → b < w.heap.size → w2.heap[b]? = w.heap[b]? := fun b h1 h2 hl => hfr.block b hl (fun e => by rcases e with (e | e) | e; exact h1 e; omega; exact h2 e)
      refine ⟨rfl, ⟨(hne p (fun e => hS.p_own (.inr (.inl e))) (fun e => hS.p_own (.inr (.inr e))) hS.p_lt).trans hS.ptr, R_at hS.row (fun b hb => hne b (hS.v_ne hb).1 (hS.v_ne hb).2 (hS.own_lt (.inl hb))), ?_, hm2.congr (fun kl => ?_), hS.ne, hS.ok.fence⟩, ?_⟩
      · rw [← HE.out]
        exact HM.out.fr hf2 hS.ne
      · unfold flF
        split
        · simp [Dev.fence]
        · rfl
      · refine ⟨hfr.os, hfr.tape, hfr.output, hfr.size, fun b hb hn => hne b (fun e => hn (.inr (.inl e))) (fun e => hn (.inr (.inr e))) hb⟩
    · intro x c kl yd yp w1 cnt1 hkey hlk hv hat hrg1 hlt hg1 hs1 hen
      obtain ⟨k, hkl, hF⟩ := fl_key HFIT.out (v := c) (fun zd => (hat zd).trans (held_inv (y := (yd, yp)) hv))
      subst hkl
      obtain ⟨x', ex, ekl, _⟩ := Maps.keyOf_int_inv Try.underlying3 hkey
      simp only [Value.int.injEq, true_and] at ex
      subst ex
      simp only [Lit.int.injEq, true_and] at ekl
      subst ekl
      have HF := Aside0.mk hF
      have HRG1 := Aside0.mk hrg1
      have HKY := Aside0.mk hkey
      have HLT := Aside0.mk hlt
      have HG1 := Aside0.mk hg1
      have hne2 : w.heap.size ≠ s := fun e => absurd HH.out.safe.lt (by rw [← e]; exact Nat.lt_irrefl _)
      have HM1 := Aside0.mk (HM.out.kept hg1 (fun e => hne2 (by injection e with e; exact e.symm)))
      have e1 := (Fr.grown (S := fun b => b = w.heap.size) (Fr.refl _ wr) hg1 (fun k hk => .inl (by injection hk with hk; exact hk.symm))).cell c1 (fun e => absurd HH.out.p_lt (by rw [show p = w.heap.size from e]; exact Nat.lt_irrefl _))
      clear hrg1 hkey hlk hv hat hlt hg1 hs1 hF hne2
      go_wp2_with (at_delete; refine wpList_del rfl (.tmp 15) (.tmp 16) 110 rfl law_int Try.underlying110 rfl HM1.out (.int .i64 k) (.int .i64 k) rfl HKY.out ?_; intro w2 hm2 ht2; go_frame)
      have hg2 := ht2.grown
      have hrg2 : w2.ranges Try.prog 3 heldR f w.heap.size (Maps.size D) D (fun z => left z && !z.sameKey (.int .i64 k)) cnt1 := HRG1.out.kept hg2 (fun e => HH.out.ne (by injection e with e; exact e.symm)) (fun e => absurd HH.out.safe.lt (by injection e with e; rw [← e]; exact Nat.lt_irrefl _))
      refine ⟨⟨_, cnt1, ⟨hrg2⟩, ⟨hm2.congr (fun x => fenS_step HF.out x)⟩, ⟨?_⟩⟩, ?_⟩
      · exact (HFR.out.grown HG1.out (fun j hj => .inl (.inr (by injection hj with hj; exact hj.symm)))).trans' (ht2.fr (.inl rfl))
      · rw [hrg2.left_eq, HRG.out.left_eq]
        exact HLT.out
end Go.Proofs.Ytbfogcckbhkciaa.Hand
