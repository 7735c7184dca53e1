/- few and made of the laws on devices. -/
import Derived.Test.YtbfogcckbhkciaaHandPm8
namespace Go.Proofs.Ytbfogcckbhkciaa.Hand
open Go.RowKit Go.Maps Go.Proofs.YtbfogcckbhkciaaW.PrintWords
set_option linter.unusedVariables false

/-- A bool, whichever. -/
def SomeB (w : World) (e : Ending) (w' : World) : Prop := ∃ b : Bool, e = .returned (.bool b) ∧ Below w.heap.size w w'
set_option maxRecDepth 100000 in
theorem few3_calls (w : World) (A : Option Addr) (c : Nat) (os : List OpP) (ho : PoK.C w A os.length os) (hw : ∀ o ∈ os, WfPo w o) :
    Calls Try.prog 32 #[.slice A os.length c] w (SomeB w) := by
  have HO := Aside0.mk ho
  have HW := Aside0.mk hw
  have hl : os.length ≤ 9223372036854775807 := ho.2.1
  clear ho hw
  go_enter Try.func32, Try.ntmps32
  go_wp2
  go_loopw [3, 8] (fun n i wr => ∃ (k : Nat) (m : Int), k ≤ os.length ∧ n = .int .i64 m ∧ i = .int .i64 k ∧ Aside0 (Below w.heap.size w wr)) (fun _ i _ => (os.length - intOf i).toNat)
  case atStart => exact ⟨0, 0, Nat.zero_le _, rfl, rfl, ⟨Below.refl _ _⟩⟩
  case round =>
    obtain ⟨k, m, hk, rfl, rfl, HB⟩ := hrel
    by_cases hlt : k < os.length
    · (obtain ⟨o, hx⟩ : ∃ o, os[k]? = some o := ⟨_, List.getElem?_eq_getElem hlt⟩; obtain ⟨bb, ob, hB, hcb⟩ := C_at (Kd.C_below HO.out HB.out) (by decide) hx; subst hB; have HWO := Aside0.mk (HW.out o (List.mem_of_getElem? hx)); obtain ⟨z, a, long, A1, c1, bs, A2, c2, ks⟩ := o; have b0 : wr.cell? ⟨bb, ob + k * 5, none⟩ = some (.int .i64 z) := hcb 0 (by decide); have b1 : wr.cell? ⟨bb, ob + k * 5 + 1, none⟩ = some (.int .i64 a) := hcb 1 (by decide); have b2 : wr.cell? ⟨bb, ob + k * 5 + 2, none⟩ = some (.int .i64 long) := hcb 2 (by decide); have b3 : wr.cell? ⟨bb, ob + k * 5 + 3, none⟩ = some (.slice A1 bs.length c1) := hcb 3 (by decide); have b4 : wr.cell? ⟨bb, ob + k * 5 + 4, none⟩ = some (.slice A2 ks.length c2) := hcb 4 (by decide); clear hcb)
      clear hx
      go_wp2
      refine ⟨⟨k + 1, _, by omega, rfl, by go_num, ⟨below_alloc HB.out _⟩⟩, by simp [intOf]; omega⟩
    · obtain rfl : k = os.length := by omega
      by_cases h8 : os.length ≤ 80
      · go_wp2
        go_ret
        exact ⟨_, rfl, HB.out⟩
      · go_wp2
        go_ret
        exact ⟨_, rfl, HB.out⟩
def dev10 : Dev := Dev.of (List.replicate 80 0)
theorem runD_take {d : Dev} {os : List OpP} {k : Nat} {o : OpP} (h : os[k]? = some o) : runD d (os.take (k + 1)) = stepD (runD d (os.take k)) o := by
  have : os.take (k + 1) = os.take k ++ [o] := by rw [List.take_add_one, h]; rfl
  rw [this, runD, List.foldl_append]
  rfl
/-- What made leaves. -/
def MadeD (w : World) (os : List OpP) (e : Ending) (w' : World) : Prop :=
  (e = .returned (.tuple #[.pointer none, .bool false]) ∧ Below w.heap.size w w') ∨
  ∃ (p : Nat) (v : Value) (s f : Nat), e = .returned (.tuple #[.pointer (some ⟨p, 0, none⟩), .bool true]) ∧ HasD w' p v s f (runD dev10 os) ∧ w.heap.size ≤ p ∧ (∀ b, OwnD v s f b → w.heap.size ≤ b) ∧ Below w.heap.size w w'
theorem reads_off {q : IntKind} {w : World} {A : Option Addr} {n : Nat} {l : List Int} (h : ReadsInt w q A n l) {v : Value} (hv : ∀ b, some b = v.ownBlock → w.heap.size ≤ b) : 0 < n → ∀ ad, A = some ad → ¬ some ad.block = v.ownBlock := by
  intro h0 ad e hb
  obtain ⟨ad', e', hx⟩ := h.2.2 h0
  rw [e] at e'
  obtain rfl := Option.some.inj e'
  have h1 := World.block_lt_of_cell? _ _ (hx 0 h0)
  have : (ad.add 0).block = ad.block := by unfold Addr.add; split <;> rfl
  rw [this] at h1
  have := hv _ hb
  omega
theorem WfPo.below {w w1 : World} {x : OpP} (h : WfPo w x) (hb : Below w.heap.size w w1) : WfPo w1 x := ⟨h.rb.below hb, h.by_, h.cb, h.rk.below hb, h.hz, h.ha, h.hl⟩
set_option maxRecDepth 100000 in
theorem made3_calls (w : World) (A : Option Addr) (c : Nat) (os : List OpP) (ho : PoK.C w A os.length os) (hw : ∀ o ∈ os, WfPo w o) :
    Calls Try.prog 20 #[.int .i64 10, .slice A os.length c] w (MadeD w os) := by
  have HO := Aside0.mk ho
  have HW := Aside0.mk hw
  have hl : os.length ≤ 9223372036854775807 := ho.2.1
  clear ho hw
  have HN := Aside0.mk (show Calls Try.prog 27 #[.int .i64 10] w (NewDev w (List.replicate 80 0)) from new_calls w 10 (by omega))
  go_enter Try.func20, Try.ntmps20
  go_wp2_with (first | (go_at_call 27; (with_reducible refine HN.out.mono ?_); rintro e w1 ⟨p, v, s, f, rfl, hd1, hp1, hv1, hb1⟩; have HD1 := Aside0.mk hd1; have HP1 := Aside0.mk hp1; have HV1 := Aside0.mk hv1; have HB1 := Aside0.mk hb1; clear hd1 hp1 hv1 hb1) | (go_at_call 32; (with_reducible refine (few3_calls w1 A c os (Kd.C_below HO.out HB1.out) (fun o ho => (HW.out o ho).below HB1.out)).mono ?_); rintro e w2 ⟨b, rfl, hb2⟩; have HD2 := Aside0.mk (HD1.out.move hb2); have HB2 := Aside0.mk (bel_step HB1.out hb2); clear hb2; cases b))
  go_ret2
  exact .inl ⟨rfl, HB2.out⟩
  go_loopw [28] (fun i wr => ∃ k : Nat, k ≤ os.length ∧ i = .int .i64 k ∧ Aside0 (HasD wr p v s f (runD dev10 (os.take k))) ∧ Aside0 (Below w.heap.size w wr)) (fun i _ => (os.length - intOf i).toNat)
  case atStart => exact ⟨0, Nat.zero_le _, rfl, HD2, HB2⟩
  case round =>
    obtain ⟨k, hk, rfl, HD, HB⟩ := hrel
    by_cases hlt : k < os.length
    · (obtain ⟨o, hx⟩ : ∃ o, os[k]? = some o := ⟨_, List.getElem?_eq_getElem hlt⟩; obtain ⟨bb, ob, hB, hcb⟩ := C_at (Kd.C_below HO.out HB.out) (by decide) hx; subst hB; have HWO := Aside0.mk (HW.out o (List.mem_of_getElem? hx)); obtain ⟨z, a, long, A1, c1, bs, A2, c2, ks⟩ := o; have b0 : wr.cell? ⟨bb, ob + k * 5, none⟩ = some (.int .i64 z) := hcb 0 (by decide); have b1 : wr.cell? ⟨bb, ob + k * 5 + 1, none⟩ = some (.int .i64 a) := hcb 1 (by decide); have b2 : wr.cell? ⟨bb, ob + k * 5 + 2, none⟩ = some (.int .i64 long) := hcb 2 (by decide); have b3 : wr.cell? ⟨bb, ob + k * 5 + 3, none⟩ = some (.slice A1 bs.length c1) := hcb 3 (by decide); have b4 : wr.cell? ⟨bb, ob + k * 5 + 4, none⟩ = some (.slice A2 ks.length c2) := hcb 4 (by decide); clear hcb)
      have HRN := Aside0.mk (runD_take (d := dev10) hx)
      clear hx
      have HDO := Aside0.mk (does3_calls _ p v s f _ z a long A1 c1 bs A2 c2 ks (HD.out.move (below_alloc (Below.refl _ _) (.cells #[.int .i64 z, .int .i64 a, .int .i64 long, .slice A1 bs.length c1, .slice A2 ks.length c2] 26))) (HWO.out.below (below_alloc HB.out _)) (reads_off HWO.out.rk (fun b hb => HV1.out b (.inl hb))))
      go_wp2_with (go_at_call 33; (with_reducible refine HDO.out.mono ?_); rintro e w3 ⟨t, n, rfl, hd3, hf3⟩; have HD3 := Aside0.mk hd3; have HB3 := Aside0.mk ((below_alloc HB.out _).trans (hf3.below _ (below_alloc HB.out _).size (fun b hb => HV1.out b hb))); clear hd3 hf3)
      refine ⟨⟨k + 1, by omega, by go_num, ⟨?_⟩, HB3⟩, by simp [intOf]; omega⟩
      rw [HRN.out]
      exact HD3.out
    · obtain rfl : k = os.length := by omega
      rw [List.take_length] at HD
      go_wp2
      go_ret2
      exact .inr ⟨p, v, s, f, rfl, HD.out, HP1.out, HV1.out, HB.out⟩
theorem runD_ok {w : World} {os : List OpP} (h : ∀ o ∈ os, WfPo w o) : (runD dev10 os).Ok ∧ (runD dev10 os).B.length = 80 := by
  have : ∀ (d : Dev) (os : List OpP), d.Ok → (∀ o ∈ os, WfPo w o) → (runD d os).Ok ∧ (runD d os).B.length = d.B.length := by
    intro d os
    induction os generalizing d with
    | nil => exact fun h _ => ⟨h, rfl⟩
    | cons o os ih =>
      intro hd ho
      have h1 := stepD_ok hd (ho o (List.mem_cons_self ..))
      obtain ⟨h2, h3⟩ := ih (stepD d o) h1 (fun x hx => ho x (List.mem_cons_of_mem _ hx))
      exact ⟨h2, h3.trans (stepD_len hd o)⟩
  have h0 : dev10.Ok := Dev.Ok.of (by simp) (by simp) (zeros_bys 80)
  obtain ⟨h1, h2⟩ := this dev10 os h0 h
  exact ⟨h1, by rw [h2]; simp [dev10, Dev.of]⟩
end Go.Proofs.Ytbfogcckbhkciaa.Hand
