/- Save. -/
import Derived.Test.YtbfogcckbhkciaaHandDk5
namespace Go.Proofs.Ytbfogcckbhkciaa.Hand
open Go.RowKit Go.Maps Go.Proofs.YtbfogcckbhkciaaW.PrintWords
set_option linter.unusedVariables false
set_option linter.unusedSimpArgs false
theorem wrsN_ok {at_ j : Nat} {X : List Int} (h : Bys X) : ∀ m ∈ wrsN at_ X j, OkM m := by
  intro m hm
  obtain ⟨i, _, rfl⟩ := List.mem_map.1 hm
  exact cut_bys h _ _
theorem padL_bys {l : List Int} (h : Bys l) : Bys (padL l) := by
  intro x hx
  rcases List.mem_append.1 hx with hx | hx
  · exact h x hx
  · rw [List.eq_of_mem_replicate hx]
    omega
theorem newK_ok {d : Dev} {l : List Int} (hf : ¬ FullD d l) : MarkOk ((dmark d).1 + 1) (newK d) := by
  rw [FullD] at hf
  rw [newK]
  rcases dmark_cases d with hc | hc
  · rw [hc]
    exact ⟨by decide, by decide, by decide, by decide⟩
  · obtain ⟨h1, h2, h3, h4⟩ := hc
    rw [if_neg (by omega)]
    exact ⟨by omega, by omega, by omega, by omega⟩
theorem stepsD_okm {d : Dev} {l : List Int} (hl : Bys l) (hf : ¬ FullD d l) : ∀ m ∈ stepsD d l, OkM m := by
  intro m hm
  rw [stepsD] at hm
  rcases List.mem_append.1 hm with hm | hm
  · exact wrsN_ok (padL_bys hl) m hm
  · simp only [List.mem_cons, List.not_mem_nil, or_false] at hm
    rcases hm with rfl | rfl | rfl | rfl | rfl
    · trivial
    · trivial
    · exact markL_bys (newK_ok hf)
    · trivial
    · trivial
/-- What a device is behind Save. -/
def Dev.save (d : Dev) (l : List Int) : Dev := d.steps (stepsD d l)
/-- A step of a row, called. -/
theorem take_steps {d : Dev} {ms : List StepM} {k : Nat} {m : StepM} (h : ms[k]? = some m) : d.steps (ms.take (k + 1)) = (d.steps (ms.take k)).step m := by
  rw [List.take_add_one, h]
  exact Dev.steps_snoc _ _ _
theorem row_cell {w : World} {base : Nat} {u : Value} {xs : List StepV} (h : RowS w base u xs) (h0 : 0 < xs.length) : ∃ g c, u = .slice (some ⟨g, 0, none⟩) xs.length c ∧ base ≤ g ∧ ∀ k x, xs[k]? = some x → w.cell? ⟨g, k, none⟩ = some (encS x) := by
  obtain ⟨g, cap, e, hg, _⟩ := own_slice_form h h0
  refine ⟨g, cap, e, hg, fun k x hx => ?_⟩
  obtain ⟨A, c, e2, _, hC⟩ := Kd.R_reads h
  rw [e] at e2
  simp only [Value.slice.injEq] at e2
  obtain ⟨hA, _, _⟩ := e2
  have hR := Kd.reads_of_C (d := StepV.fe 0) hC
  obtain ⟨ad, ea, hc⟩ := hR.2.2 h0
  rw [← hA] at ea
  obtain rfl := Option.some.inj ea
  obtain ⟨hl, hk⟩ := List.getElem?_eq_some_iff.1 hx
  have := hc k hl
  rw [add_plain, List.getD_eq_getElem?_getD, hx] at this
  simpa using this
set_option maxRecDepth 100000 in
theorem save_full (w : World) (p : Nat) (v : Value) (s f : Nat) (d : Dev) (A : Option Addr) (c : Nat) (l : List Int) (h : HasD w p v s f d) (hl : l.length ≤ 9223372036854775807) (hf : FullD d l) :
    Calls Try.prog 49 #[.pointer (some ⟨p, 0, none⟩), .slice A l.length c] w fun e w' => e = .returned (.int .i64 191) ∧ Below w.heap.size w w' := by
  have HB := Aside0.mk (begin_full w p v s f d A c l h hl hf)
  clear h
  go_enter Try.func49, Try.ntmps49
  go_wp2_with (go_at_call 54; ((with_reducible refine HB.out.mono ?_); rintro e w1 ⟨rfl, hb⟩; have HB1 := Aside0.mk hb; clear hb))
  go_loopw [17] (fun i wr => i = .int .i64 0 ∧ Aside0 (Below w.heap.size w wr)) (fun _ _ => 0)
  case atStart => exact ⟨rfl, HB1⟩
  case round =>
    obtain ⟨rfl, HBr⟩ := hrel
    go_wp2
    go_ret
    exact ⟨rfl, HBr.out⟩
/-- What Save leaves. -/
def SavedD (w : World) (p : Nat) (v : Value) (s f : Nat) (d : Dev) (l : List Int) (e : Ending) (w' : World) : Prop :=
  e = .returned (.int .i64 0) ∧ HasD w' p v s f (d.save l) ∧ Fr (OwnD v s f) w w'
set_option maxRecDepth 100000 in
theorem save_good (w : World) (p : Nat) (v : Value) (s f : Nat) (d : Dev) (A : Option Addr) (c : Nat) (l : List Int) (h : HasD w p v s f d) (hr : ReadsInt w .u8 A l.length l) (hbl : Bys l) (hf : ¬ FullD d l) :
    Calls Try.prog 49 #[.pointer (some ⟨p, 0, none⟩), .slice A l.length c] w (SavedD w p v s f d l) := by
  have HB := Aside0.mk (show Calls Try.prog 54 #[.pointer (some ⟨p, 0, none⟩), .slice A l.length c] w fun e w' => ∃ (u : Value) (xs : List StepV), e = .returned (.tuple #[u, .int .i64 0]) ∧ RowS w' w.heap.size u xs ∧ IsAll w' (fun b => w.heap.size ≤ b) p xs (stepsD d l) ∧ Below w.heap.size w w' from begin_good w p v s f d A c l h hr hf)
  have HOK := Aside0.mk (stepsD_okm hbl hf)
  have HH := Aside0.mk h
  have HSV := Aside0.mk (show d.save l = d.steps (stepsD d l) from rfl)
  obtain ⟨ms, hms⟩ : ∃ ms, ms = stepsD d l := ⟨_, rfl⟩
  have h5 : 5 ≤ ms.length := by rw [hms, stepsD, List.length_append]; simp
  have hml : ms.length ≤ 9000 := by
    have hmx := h.ok.max
    rw [hms, stepsD, List.length_append, wrsN, List.length_map, List.length_range, padL_length]
    rw [FullD, roomD, roomN] at hf
    simp
    omega
  rw [← hms] at HB HOK HSV
  clear h hr hms hf
  go_enter Try.func49, Try.ntmps49
  go_wp2_with (go_at_call 54; ((with_reducible refine HB.out.mono ?_); rintro e w1 ⟨u, xs, rfl, hrow, hall, hb⟩; have HAL := Aside0.mk hall; have HB1 := Aside0.mk hb; have HXL := Aside0.mk hall.len; obtain ⟨g, cu, rfl, hg, hcell⟩ := row_cell hrow (by have := hall.len; omega); have HCE := Aside0.mk hcell; have HG := Aside0.mk hg; clear hrow hall hb hcell hg))
  have hxl2 : xs.length ≤ 9000 := by have := HXL.out; omega
  go_loopw [17] (fun i wr => ∃ k : Nat, k ≤ xs.length ∧ i = .int .i64 (k : Int) ∧ Aside0 (HasD wr p v s f (d.steps (ms.take k))) ∧ Aside0 (Fr (OwnD v s f) w1 wr)) (fun i _ => (xs.length - intOf i).toNat)
  case atStart => exact ⟨0, Nat.zero_le _, rfl, ⟨HH.out.move HB1.out⟩, ⟨Fr.refl _ _⟩⟩
  case round =>
    obtain ⟨k, hk, rfl, HD, HF⟩ := hrel
    by_cases hlt : k < xs.length
    · obtain ⟨x, hx⟩ : ∃ x, xs[k]? = some x := ⟨_, List.getElem?_eq_getElem hlt⟩
      obtain ⟨m, hm, hst1⟩ := HAL.out.get hx
      have hTo : ∀ b, w.heap.size ≤ b → ¬ OwnD v s f b := fun b hb ho => absurd (HH.out.own_lt ho) (Nat.not_lt.2 hb)
      have hst := hst1.move HF.out hTo
      have hcx := HF.out.cell (HCE.out k x hx) (hTo _ HG.out)
      have HTK := Aside0.mk (take_steps (d := d) hm)
      have hok := HOK.out m (List.mem_of_getElem? hm)
      clear hst1 hTo hm hx
      cases x with
      | wr bd ba bx =>
        cases m with
        | wr a y =>
          have HDO := Aside0.mk (step_wr wr p v s f _ _ bd ba bx a y HD.out hst hok)
          simp only [encS] at hcx
          clear hst hok
          go_wp2_with (go_at_call 96; ((with_reducible refine HDO.out.mono ?_); rintro e w3 ⟨rfl, hd, hf⟩; have HD3 := Aside0.mk hd; have HF3 := Aside0.mk (HF.out.trans' hf); clear hd hf))
          refine ⟨⟨k + 1, by omega, by go_num, ⟨?_⟩, HF3⟩, by simp [intOf]; omega⟩
          rw [HTK.out]
          exact HD3.out
        | fl a n => exact hst.elim
        | fe => exact hst.elim
      | fl bd ba bn =>
        cases m with
        | fl a n =>
          have HDO := Aside0.mk (step_fl wr p v s f _ _ bd ba bn a n HD.out hst)
          simp only [encS] at hcx
          clear hst hok
          go_wp2_with (go_at_call 98; ((with_reducible refine HDO.out.mono ?_); rintro e w3 ⟨rfl, hd, hf⟩; have HD3 := Aside0.mk hd; have HF3 := Aside0.mk (HF.out.trans' hf); clear hd hf))
          refine ⟨⟨k + 1, by omega, by go_num, ⟨?_⟩, HF3⟩, by simp [intOf]; omega⟩
          rw [HTK.out]
          exact HD3.out
        | wr a n => exact hst.elim
        | fe => exact hst.elim
      | fe q =>
        cases m with
        | fe =>
          obtain rfl : q = p := hst
          have HDO := Aside0.mk (step_fe wr q v s f _ HD.out)
          simp only [encS] at hcx
          clear hok
          go_wp2_with (go_at_call 24; ((with_reducible refine HDO.out.mono ?_); rintro e w3 ⟨rfl, hd, hf⟩; have HD3 := Aside0.mk hd; have HF3 := Aside0.mk (HF.out.trans' hf); clear hd hf))
          refine ⟨⟨k + 1, by omega, by go_num, ⟨?_⟩, HF3⟩, by simp [intOf]; omega⟩
          rw [HTK.out]
          exact HD3.out
        | wr a n => exact hst.elim
        | fl a n => exact hst.elim
    · have hk2 : k = ms.length := by have := HXL.out; omega
      have HK2 := Aside0.mk hk2
      clear hk2
      go_wp2
      go_ret
      have hD := HD.out
      rw [HK2.out, List.take_length] at hD
      rw [SavedD, HSV.out]
      exact ⟨rfl, hD, (Fr.of_below HB1.out _).trans' HF.out⟩
end Go.Proofs.Ytbfogcckbhkciaa.Hand
