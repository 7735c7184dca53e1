/- The walk of a law of layer 4 (WAtomic), over the contracts of the log. -/
import Derived.Test.YtbfogcckbhkciaaHandZ7
import Derived.SizedLaws
namespace Go.Proofs.Ytbfogcckbhkciaa.Hand
open Go.RowKit Go.Maps Go.Proofs.YtbfogcckbhkciaaW.PrintWords
set_option linter.unusedVariables false
set_option linter.unusedSimpArgs false
/-- Every word, seen or safe, is one that V allows. -/
def AllV (d : Dev) (n : Nat) (V : Nat → List Int → Prop) : Prop := ∃ W S F, Is d n W S F ∧ (∀ k, k < n → V k (W k)) ∧ ∀ k c, S k = some c → V k c
def GoodV (n : Nat) (V : Nat → List Int → Prop) : StepM → Prop
  | .wr a x => ∃ j, j < n ∧ a = 8 * j ∧ x.length = 8 ∧ V j x
  | .fl a m => ∃ i m', i + m' ≤ n ∧ a = 8 * i ∧ m = 8 * m'
  | .fe => True
theorem AllV.cln {d : Dev} {n : Nat} {W : Nat → List Int} {V : Nat → List Int → Prop} (h : Cln d n W) (hv : ∀ k, k < n → V k (W k)) : AllV d n V := ⟨W, _, _, h, hv, fun k c hc => by simp at hc⟩
theorem AllV.step {d : Dev} {n : Nat} {V : Nat → List Int → Prop} (h : AllV d n V) {m : StepM} (hm : GoodV n V m) : AllV (d.step m) n V := by
  obtain ⟨W, S, F, hi, hw, hs⟩ := h
  cases m with
  | wr a x =>
    obtain ⟨j, hj, rfl, hx, hv⟩ := hm
    refine ⟨_, _, _, hi.wr hj hx, fun k hk => ?_, fun k c hc => ?_⟩
    · by_cases e : k = j
      · subst e; simpa using hv
      · simpa [e] using hw k hk
    · by_cases e : k = j
      · subst e
        simp only [if_true, Option.some.injEq] at hc
        subst hc
        cases hS : S k with
        | none => simpa using hw k hj
        | some c' => simpa using hs k c' hS
      · simp only [if_neg e] at hc
        exact hs k c hc
  | fl a m =>
    obtain ⟨i, m', him, rfl, rfl⟩ := hm
    exact ⟨_, _, _, hi.fl him, hw, hs⟩
  | fe =>
    refine ⟨_, _, _, hi.fe, hw, fun k c hc => ?_⟩
    by_cases hF : F k = true
    · simp [hF] at hc
    · simp only [if_neg hF] at hc
      exact hs k c hc
theorem AllV.steps {n : Nat} {V : Nat → List Int → Prop} : ∀ {ms : List StepM} {d : Dev}, AllV d n V → (∀ m ∈ ms, GoodV n V m) → AllV (d.steps ms) n V
  | [], _, h, _ => h
  | m :: ms, d, h, hm => AllV.steps (ms := ms) (h.step (hm m (List.mem_cons_self ..))) (fun x hx => hm x (List.mem_cons_of_mem _ hx))
theorem AllV.crash {d : Dev} {n : Nat} {V : Nat → List Int → Prop} (h : AllV d n V) (hok : d.Ok) (keep : List Int) : ∃ W', Cln (d.crash keep) n W' ∧ ∀ k, k < n → V k (W' k) := by
  obtain ⟨W, S, F, hi, hw, hs⟩ := h
  refine ⟨_, hi.crash hok keep, fun k hk => ?_⟩
  cases hS : S k with
  | none => exact hw k hk
  | some c =>
    simp only
    split
    · exact hw k hk
    · exact hs k c hS
/-- What a cut-off row of steps leaves: outside the region the words of W0, or those with the sets. -/
def OutW (W0 W' : Nat → List Int) : Prop := ∀ k, k < 20 → ¬ (2 ≤ k ∧ k < 11) → W' k = W0 k
/-- The state ahead: a clean device whose record, if it has one, is brought already. -/
def PreW (W0 : Nat → List Int) : Prop := ∃ (q : Int) (sets0 : List SetT), recB 20 2 9 (mapW W0 2 9) = (q, sets0) ∧ (0 < q → (∀ s ∈ sets0, s.1.toNat < 20) ∧ ∀ k, k < 20 → setW W0 sets0 k = W0 k)
theorem preW_zero : PreW (fun _ => zeros8) := ⟨0, [], rec_none (by decide) rfl, fun h => absurd h (by decide)⟩
theorem preW_commit {sets : List SetT} {nx : Nat} (hnx : 1 ≤ nx) {D : Dev} {W : Nat → List Int} (h : Cln D 20 W) (he : errW 20 2 9 nx sets = 0) (hw : ∀ s ∈ sets, WfSt s) : PreW (setW (recW 2 nx sets W) sets) := by
  obtain ⟨hr, hc⟩ := wal_rec h (by decide) (by decide) (by decide) he hw hnx
  rw [recD_is hc (by decide)] at hr
  refine ⟨_, sets, hr, fun _ => ⟨may_nat (errW_ok he).1, fun k hk => ?_⟩⟩
  by_cases hh : hitS sets k = true
  · exact setW_hit hh
  · exact setW_miss (by simpa using hh)
theorem setW_cong {W W' : Nat → List Int} {l : List SetT} {k : Nat} (h : W k = W' k) : setW W l k = setW W' l k := by
  by_cases hh : hitS l k = true
  · exact setW_hit hh
  · rw [setW_miss (by simpa using hh), setW_miss (by simpa using hh), h]
/-- No record: what stands stays. -/
theorem rv_none {C : Dev} {W' : Nat → List Int} (h : Cln C 20 W') (h2 : W' 2 = zeros8) : Cln (recoverD C 2 9) 20 W' := by
  have hr : recD C 2 9 = (0, []) := by rw [recD_is h (by decide)]; exact rec_none (by decide) h2
  rw [recoverD, hr]
  exact h
/-- The old record, brought again. -/
theorem rv_old {C : Dev} {W0 W' : Nat → List Int} (h : Cln C 20 W') (hp : PreW W0) (hr : ∀ k, k < 20 → W' k = W0 k) : ∃ W2, Cln (recoverD C 2 9) 20 W2 ∧ OutW W0 W2 := by
  obtain ⟨q, sets0, hq, hb⟩ := hp
  have e : recD C 2 9 = (q, sets0) := by rw [recD_is h (by decide), ← hq]; exact congrArg _ (mapW_congr (fun j _ hj => hr j (by omega)))
  by_cases h0 : 0 < q
  · obtain ⟨hl, hs⟩ := hb h0
    exact ⟨_, recover_cln h e h0 hl, fun k hk _ => by rw [setW_cong (hr k hk), hs k hk]⟩
  · exact ⟨W', by rw [recover_none e h0]; exact h, fun k hk _ => hr k hk⟩
/-- The new record, brought whole. -/
theorem rv_new {C D1 : Dev} {W0 W' : Nat → List Int} {nx : Nat} {sets : List SetT} (h : Cln C 20 W') (hc : Cln D1 20 W0) (he : errW 20 2 9 nx sets = 0) (hw : ∀ s ∈ sets, WfSt s) (hnx : 1 ≤ nx)
    (hr : ∀ k, k < 20 → hitS sets k = true ∨ W' k = recW 2 nx sets W0 k) : ∃ W2, Cln (recoverD C 2 9) 20 W2 ∧ OutW (setW W0 sets) W2 := by
  obtain ⟨h1, h2⟩ := wal_rec hc (by decide) (by decide) (by decide) he hw hnx
  obtain ⟨hall, h0, h4, _⟩ := errW_ok he
  rw [recD_is h2 (by decide)] at h1
  have e : recD C 2 9 = ((nx : Int), sets) := by
    rw [recD_is h (by decide), ← h1]
    refine congrArg _ (mapW_congr (fun j hj2 hj => ?_))
    have hn := hit_no hall (j := j) (by omega) (by omega)
    rw [setW_miss hn]
    rcases hr j (by omega) with hh | hh
    · rw [hn] at hh; exact absurd hh (by decide)
    · exact hh
  refine ⟨_, recover_cln h e (by omega) (may_nat hall), fun k hk ho => ?_⟩
  by_cases hh : hitS sets k = true
  · exact setW_hit hh
  · refine setW_cong ?_
    rcases hr k hk with h5 | h5
    · exact absurd h5 hh
    · rw [h5, recW, putW, if_neg (by omega), newW, if_neg (by omega), putW, if_neg (by omega)]
theorem take_app {α : Type} (X Y : List α) (i : Nat) : (X ++ Y).take i = X.take i ∨ ∃ j, (X ++ Y).take i = X ++ Y.take j := by
  by_cases h : i ≤ X.length
  · exact .inl (List.take_append_of_le_length h)
  · exact .inr ⟨i - X.length, by rw [List.take_append, List.take_of_length_le (by omega)]⟩
theorem cut_off {D1 : Dev} {W0 : Nat → List Int} {nx : Nat} {sets : List SetT} (hok : ∀ i, (D1.steps ((walM 2 nx sets).take i)).Ok) (hc : Cln D1 20 W0) (hp : PreW W0) (he : errW 20 2 9 nx sets = 0) (hw : ∀ s ∈ sets, WfSt s) (hnx : 1 ≤ nx) (i : Nat) (keep : List Int) :
    ∃ W2, Cln (recoverD ((D1.steps ((walM 2 nx sets).take i)).crash keep) 2 9) 20 W2 ∧ (OutW W0 W2 ∨ OutW (setW W0 sets) W2) ∧ ((walM 2 nx sets).length ≤ i → OutW (setW W0 sets) W2) := by
  obtain ⟨hall, h0, h4, _⟩ := errW_ok he
  have hbl : (bodyL sets).length = 8 * (2 * sets.length) := by rw [bodyL_length]; omega
  have hA := hc.one (i := 2) (x := zeros8) (by decide) rfl
  have hB := hA.body (a := 2) (m := 2 * sets.length) (b := bodyL sets) hbl (by omega)
  have hC := hB.one (i := 2) (x := headL sets.length nx (bodyL sets)) (by decide) (headL_length _ _ _)
  have hok := hok i
  by_cases hi : (walM 2 nx sets).length ≤ i
  · rw [List.take_of_length_le hi] at hok ⊢
    have h1 := (wal_rec hc (by decide) (by decide) (by decide) he hw hnx).2.crash hok keep
    obtain ⟨W2, hx, ho⟩ := rv_new h1 hc he hw hnx (fun k hk => by
      by_cases hh : hitS sets k = true
      · exact .inl hh
      · exact .inr (setW_miss (by simpa using hh)))
    exact ⟨W2, hx, .inr ho, fun _ => ho⟩
  suffices H : ∃ W2, Cln (recoverD ((D1.steps ((walM 2 nx sets).take i)).crash keep) 2 9) 20 W2 ∧ (OutW W0 W2 ∨ OutW (setW W0 sets) W2) by
    obtain ⟨W2, hx, ho⟩ := H
    exact ⟨W2, hx, ho, fun h => absurd h hi⟩
  clear hi
  rw [walM_eq, List.append_assoc, List.append_assoc] at hok ⊢
  rcases take_app (α := StepM) [.wr (8 * 2) zeros8, .fl (8 * 2) (8 * 1), .fe] _ i with e | ⟨j, e⟩ <;> rw [e] at hok ⊢
  · have hv := (AllV.cln (V := fun k x => x = W0 k ∨ (k = 2 ∧ x = zeros8)) hc (fun k hk => .inl rfl)).steps (ms := List.take i [.wr (8 * 2) zeros8, .fl (8 * 2) (8 * 1), .fe]) (fun m hm => by
      have hm := List.mem_of_mem_take hm
      simp only [List.mem_cons, List.not_mem_nil, or_false] at hm
      rcases hm with rfl | rfl | rfl
      · exact ⟨2, by decide, rfl, rfl, .inr ⟨rfl, rfl⟩⟩
      · exact ⟨2, 1, by decide, rfl, rfl⟩
      · trivial)
    obtain ⟨W', hx, hV⟩ := hv.crash hok keep
    by_cases hz : W' 2 = zeros8
    · exact ⟨W', rv_none hx hz, .inl (fun k hk ho => (hV k hk).elim id (fun h => absurd h.1 (by omega)))⟩
    · obtain ⟨W2, h5, h6⟩ := rv_old hx hp (fun k hk => (hV k hk).elim id (fun h => absurd (h.1 ▸ h.2) hz))
      exact ⟨W2, h5, .inl h6⟩
  rw [steps_app] at hok ⊢
  rcases take_app (α := StepM) (stepB 2 (bodyL sets) (2 * sets.length) ++ [.fl (8 * (2 + 1)) (8 * (2 * sets.length)), .fe]) _ j with e | ⟨j2, e⟩ <;> rw [e] at hok ⊢
  · have hv := (AllV.cln (V := fun k x => (3 ≤ k ∧ k < 11) ∨ x = putW W0 2 zeros8 k) hA (fun k hk => .inr rfl)).steps (ms := List.take j (stepB 2 (bodyL sets) (2 * sets.length) ++ [.fl (8 * (2 + 1)) (8 * (2 * sets.length)), .fe])) (fun m hm => by
      have hm := List.mem_of_mem_take hm
      rcases List.mem_append.1 hm with hm | hm
      · rw [stepB] at hm
        obtain ⟨t, ht, rfl⟩ := List.mem_map.1 hm
        have ht := List.mem_range.1 ht
        exact ⟨2 + 1 + t, by omega, rfl, cut_length (by omega), .inl ⟨by omega, by omega⟩⟩
      · simp only [List.mem_cons, List.not_mem_nil, or_false] at hm
        rcases hm with rfl | rfl
        · exact ⟨2 + 1, 2 * sets.length, by omega, rfl, rfl⟩
        · trivial)
    obtain ⟨W', hx, hV⟩ := hv.crash hok keep
    have hz : W' 2 = zeros8 := (hV 2 (by decide)).elim (fun h => absurd h.1 (by decide)) (fun h => h)
    exact ⟨W', rv_none hx hz, .inl (fun k hk ho => (hV k hk).elim (fun h => absurd h (by omega)) (fun h => by rw [h, putW, if_neg (by omega)]))⟩
  rw [steps_app] at hok ⊢
  rcases take_app (α := StepM) [.wr (8 * 2) (headL sets.length nx (bodyL sets)), .fl (8 * 2) (8 * 1), .fe] _ j2 with e | ⟨j3, e⟩ <;> rw [e] at hok ⊢
  · have hv := (AllV.cln (V := fun k x => x = newW (2 + 1) (bodyL sets) (2 * sets.length) (putW W0 2 zeros8) k ∨ (k = 2 ∧ x = headL sets.length nx (bodyL sets))) hB (fun k hk => .inl rfl)).steps (ms := List.take j2 [.wr (8 * 2) (headL sets.length nx (bodyL sets)), .fl (8 * 2) (8 * 1), .fe]) (fun m hm => by
      have hm := List.mem_of_mem_take hm
      simp only [List.mem_cons, List.not_mem_nil, or_false] at hm
      rcases hm with rfl | rfl | rfl
      · exact ⟨2, by decide, rfl, headL_length _ _ _, .inr ⟨rfl, rfl⟩⟩
      · exact ⟨2, 1, by decide, rfl, rfl⟩
      · trivial)
    obtain ⟨W', hx, hV⟩ := hv.crash hok keep
    have hn2 : newW (2 + 1) (bodyL sets) (2 * sets.length) (putW W0 2 zeros8) 2 = zeros8 := by rw [newW, if_neg (by omega), putW, if_pos rfl]
    by_cases hz : W' 2 = zeros8
    · exact ⟨W', rv_none hx hz, .inl (fun k hk ho => (hV k hk).elim (fun h => by rw [h, newW, if_neg (by omega), putW, if_neg (by omega)]) (fun h => absurd h.1 (by omega)))⟩
    · have h2 : W' 2 = headL sets.length nx (bodyL sets) := (hV 2 (by decide)).elim (fun h => absurd (h.trans hn2) hz) (fun h => h.2)
      obtain ⟨W2, h5, h6⟩ := rv_new hx hc he hw hnx (fun k hk => .inr (by
        rw [recW, putW]
        by_cases hk2 : k = 2
        · rw [if_pos hk2, hk2, h2]
        · rw [if_neg hk2]
          exact (hV k hk).elim id (fun h => absurd h.1 hk2)))
      exact ⟨W2, h5, .inr h6⟩
  rw [steps_app] at hok ⊢
  have hv := (AllV.cln (V := fun k x => hitS sets k = true ∨ x = recW 2 nx sets W0 k) hC (fun k hk => .inr rfl)).steps (ms := List.take j3 (stepE sets ++ [.fe])) (fun m hm => by
    have hm := List.mem_of_mem_take hm
    rcases List.mem_append.1 hm with hm | hm
    · rw [stepE] at hm
      obtain ⟨t, ht, hm⟩ := List.mem_flatMap.1 hm
      have hlt := may_nat hall t ht
      simp only [stepS, List.mem_cons, List.not_mem_nil, or_false] at hm
      rcases hm with rfl | rfl
      · exact ⟨t.1.toNat, hlt, rfl, leB_length _ _, .inl (List.any_eq_true.2 ⟨t, ht, by simp⟩)⟩
      · exact ⟨t.1.toNat, 1, by omega, rfl, rfl⟩
    · simp only [List.mem_cons, List.not_mem_nil, or_false] at hm
      subst hm
      trivial)
  obtain ⟨W', hx, hV⟩ := hv.crash hok keep
  obtain ⟨W2, h5, h6⟩ := rv_new hx hc he hw hnx hV
  exact ⟨W2, h5, .inr h6⟩
end Go.Proofs.Ytbfogcckbhkciaa.Hand
namespace Go.Proofs.Ytbfogcckbhkciaa.Hand
open Go.RowKit Go.Maps Go.Proofs.YtbfogcckbhkciaaW.PrintWords Go.Proofs.YtbfogcckbhkciaaW.PrintLast
set_option linter.unusedVariables false
set_option linter.unusedSimpArgs false
/-- So many bytes from 16 on are zero. -/
def zapL (B : List Int) (j : Nat) : List Int := B.take 16 ++ (List.replicate j 0 ++ B.drop (16 + j))
theorem zapL_zero (B : List Int) : zapL B 0 = B := by simp [zapL]
theorem zapL_length {B : List Int} {j : Nat} (h : 16 + j ≤ B.length) : (zapL B j).length = B.length := by
  simp only [zapL, List.length_append, List.length_take, List.length_replicate, List.length_drop]
  omega
theorem zapL_succ {B : List Int} {j : Nat} (h : 16 + j < B.length) : (zapL B j).set (16 + j) 0 = zapL B (j + 1) := by
  have h1 : (B.take 16).length = 16 := by rw [List.length_take]; omega
  rw [zapL, zapL, List.set_append_right _ _ (by omega), h1, List.set_append_right _ _ (by rw [List.length_replicate]; omega), List.length_replicate, show 16 + j - 16 - j = 0 by omega, List.drop_eq_getElem_cons (by omega), List.set_cons_zero, List.replicate_succ', List.append_assoc]
  rfl
def wordsL (B : List Int) : List Int := zapL B 72
set_option maxRecDepth 100000 in
theorem words_calls (w : World) (p : Nat) (v : Value) (s f : Nat) (d : Dev) (h : HasD w p v s f d) (hl : d.B.length = 160) :
    Calls Try.prog 46 #[.pointer (some ⟨p, 0, none⟩)] w fun e w' => ∃ g c, e = .returned (.slice (some ⟨g, 0, none⟩) 160 c) ∧ Kd.R (Kd.int .u8) 5 w' w.heap.size (fun _ => True) (.slice (some ⟨g, 0, none⟩) 160 c) (wordsL d.B) ∧ w.heap.size ≤ g ∧ Below w.heap.size w w' := by
  have HH := Aside0.mk h
  have HLB := Aside0.mk hl
  clear h hl
  go_enter Try.func46, Try.ntmps46
  go_wp2_with (go_at_call 22; ((with_reducible refine (bytes_calls _ p v s f d HH.out).mono ?_); rintro e w1 ⟨u, rfl, hu, hb⟩; obtain ⟨g, c, rfl, hg, hcap, hcap2⟩ := own_slice_form hu (by rw [HLB.out]; omega); rw [HLB.out] at hu ⊢; have HU := Aside0.mk hu; have HB := Aside0.mk hb; clear hu hb))
  go_loopw [4] (fun i wr => ∃ j : Nat, j ≤ 72 ∧ i = .int .i64 (16 + (j : Int)) ∧ Aside0 (Kd.R (Kd.int .u8) 5 wr w.heap.size (fun _ => True) (.slice (some ⟨g, 0, none⟩) 160 c) (zapL d.B j)) ∧ Aside0 (Below w.heap.size w wr)) (fun i _ => (88 - intOf i).toNat)
  case atStart => exact ⟨0, Nat.zero_le _, rfl, ⟨by rw [zapL_zero]; exact HU.out⟩, HB⟩
  case round =>
    obtain ⟨j, hj, rfl, HR, HBj⟩ := hrel
    by_cases hlj : j < 72
    · obtain ⟨hgc, hgf⟩ := Kd.R_celln (d := (0 : Int)) HR.out (16 + (j : Int)) (by omega) (by omega)
      have HRP := Aside0.mk (Kd.R_putn HR.out (16 + (j : Int)) 0)
      have HZS := Aside0.mk (show (zapL d.B j).set (16 + (j : Int)).toNat 0 = zapL d.B (j + 1) from by rw [show (16 + (j : Int)).toNat = 16 + j by omega]; exact zapL_succ (by rw [HLB.out]; omega))
      have HBP := Aside0.mk (HBj.out.setCell (p := ⟨g, (16 + (j : Int)).toNat, none⟩) hg (.int .u8 0))
      have e16 : (16 + (j : Int)).toNat = 16 + j := by omega
      rw [e16] at hgc hgf HRP HBP HZS
      clear e16
      go_wp2
      go_roundw
      case rel => exact ⟨j + 1, by omega, by go_num, ⟨by rw [← HZS.out]; exact HRP.out⟩, HBP⟩
      case measure => simp [intOf]; omega
    · obtain rfl : j = 72 := by omega
      go_wp2
      go_ret
      exact ⟨g, c, rfl, HR.out, hg, HBj.out⟩
end Go.Proofs.Ytbfogcckbhkciaa.Hand
namespace Go.Proofs.Ytbfogcckbhkciaa.Hand
open Go.RowKit Go.Maps Go.Proofs.YtbfogcckbhkciaaW.PrintWords
set_option linter.unusedVariables false
set_option linter.unusedSimpArgs false
/-- Words of which the region's are zero. -/
def starW (W : Nat → List Int) (k : Nat) : List Int := if 2 ≤ k ∧ k < 11 then zeros8 else W k
theorem mapW_zeros (a m : Nat) : mapW (fun _ => zeros8) a m = List.replicate (8 * m) 0 := by
  induction m generalizing a with
  | zero => rfl
  | succ m ih => rw [mapW, ih, show 8 * (m + 1) = 8 + 8 * m by omega, ← List.replicate_append_replicate]; rfl
theorem wordsL_is {d : Dev} {W : Nat → List Int} {S : Nat → Option (List Int)} {F : Nat → Bool} (h : Is d 20 W S F) : wordsL d.B = mapW (starW W) 0 20 := by
  have hl : d.B.length = 160 := h.len
  have e1 : d.B.take 16 = mapW W 0 2 := by rw [← h.cut (by decide)]; rfl
  have e2 : d.B.drop (16 + 72) = mapW W 11 9 := by rw [← h.cut (by decide), cut, List.take_of_length_le (by rw [List.length_drop]; omega)]
  have e3 : mapW (starW W) 0 2 = mapW W 0 2 := mapW_congr (fun j _ hj => by rw [starW, if_neg (by omega)])
  have e4 : mapW (starW W) 2 9 = List.replicate 72 0 := (mapW_congr (fun j h2 hj => by rw [starW, if_pos (by omega)])).trans (mapW_zeros 2 9)
  have e5 : mapW (starW W) 11 9 = mapW W 11 9 := mapW_congr (fun j hj _ => by rw [starW, if_neg (by omega)])
  rw [wordsL, zapL, e1, e2, show (20 : Nat) = 2 + (9 + 9) from rfl, mapW_add, mapW_add, e3, show (0 + 2 : Nat) = 2 from rfl, e4, show (2 + 9 : Nat) = 11 from rfl, e5]
theorem wordsL_out {d d' : Dev} {W W' : Nat → List Int} (h : Cln d 20 W) (h' : Cln d' 20 W') (ho : OutW W W') : wordsL d'.B = wordsL d.B := by
  rw [wordsL_is h, wordsL_is h']
  refine mapW_congr (fun j _ hj => ?_)
  rw [starW, starW]
  by_cases hr : 2 ≤ j ∧ j < 11
  · rw [if_pos hr, if_pos hr]
  · rw [if_neg hr, if_neg hr, ho j (by omega) hr]
/-- A number's bytes, so many, laid into a row. -/
def putB (L : List Int) (a : Nat) (n : Int) (k : Nat) : List Int := L.take a ++ (leB n k ++ L.drop (a + k))
theorem putB_zero (L : List Int) (a : Nat) (n : Int) : putB L a n 0 = L := by simp [putB, leB]
theorem putB_length {L : List Int} {a k : Nat} {n : Int} (h : a + k ≤ L.length) : (putB L a n k).length = L.length := by
  simp only [putB, List.length_append, List.length_take, List.length_drop, leB_length]
  omega
theorem putB_succ {L : List Int} {a k : Nat} {n : Int} (h : a + k < L.length) : (putB L a n k).set (a + k) (n / 2 ^ (8 * k) % 256) = putB L a n (k + 1) := by
  have h1 : (L.take a).length = a := by rw [List.length_take]; omega
  rw [putB, putB, List.set_append_right _ _ (by omega), h1, List.set_append_right _ _ (by rw [leB_length]; omega), leB_length, show a + k - a - k = 0 by omega, List.drop_eq_getElem_cons (by omega), List.set_cons_zero, leB, List.append_assoc]
  rfl
def wantL (L : List Int) (sets : List SetT) : List Int := sets.foldl (fun L s => putB L (8 * s.1.toNat) s.2 8) L
theorem wantL_snoc (L : List Int) (l : List SetT) (s : SetT) : wantL L (l ++ [s]) = putB (wantL L l) (8 * s.1.toNat) s.2 8 := by simp [wantL, List.foldl_append]
theorem mapW_put {W : Nat → List Int} {n i : Nat} {x : Int} (hW : ∀ j, j < n → (W j).length = 8) (hi : i < n) : putB (mapW W 0 n) (8 * i) x 8 = mapW (putW W i (leB x 8)) 0 n := by
  have hl : (mapW W 0 n).length = 8 * n := mapW_length (fun j _ hj => hW j (by omega))
  have h2 : (putB (mapW W 0 n) (8 * i) x 8).length = 8 * n := by rw [putB_length (by omega), hl]
  have h3 : putB (mapW W 0 n) (8 * i) x 8 = mapW (word (putB (mapW W 0 n) (8 * i) x 8)) 0 n := by
    rw [mapW_word (by omega), cut, Nat.mul_zero, List.drop_zero, List.take_of_length_le (by omega)]
  rw [h3]
  refine mapW_congr (fun j _ hj => ?_)
  rw [putB, word_splice (leB_length _ _) (by omega), putW, word_mapW hW (by omega)]
theorem starW_put {W : Nat → List Int} {i : Nat} {x : List Int} (h : ¬ (2 ≤ i ∧ i < 11)) (k : Nat) : starW (putW W i x) k = putW (starW W) i x k := by
  rw [starW, putW, putW, starW]
  by_cases e : k = i
  · subst e
    rw [if_neg h, if_pos rfl, if_pos rfl]
  · rw [if_neg e, if_neg e]
theorem star_len {W : Nat → List Int} (hW : ∀ j, j < 20 → (W j).length = 8) {j : Nat} (hj : j < 20) : (starW W j).length = 8 := by
  rw [starW]
  split
  · rfl
  · exact hW j hj
theorem wantL_is : ∀ {sets : List SetT} {W : Nat → List Int}, (∀ j, j < 20 → (W j).length = 8) → (∀ s ∈ sets, mayB 20 2 9 s.1 = true) → wantL (mapW (starW W) 0 20) sets = mapW (starW (setW W sets)) 0 20
  | [], _, _, _ => rfl
  | s :: sets, W, hW, hm => by
    have hs := hm s (List.mem_cons_self ..)
    have hr := may_range hs
    simp only [mayB, decide_eq_true_eq] at hs
    have hlen : ∀ j, j < 20 → (putW W s.1.toNat (leB s.2 8) j).length = 8 := fun j hj => by
      rw [putW]
      split
      · exact leB_length _ _
      · exact hW j hj
    rw [wantL, List.foldl_cons, setW, List.foldl_cons]
    have h1 : putB (mapW (starW W) 0 20) (8 * s.1.toNat) s.2 8 = mapW (starW (putW W s.1.toNat (leB s.2 8))) 0 20 := by
      rw [mapW_put (fun j hj => star_len hW hj) (by omega)]
      exact mapW_congr (fun j _ _ => (starW_put (by omega) j).symm)
    rw [h1]
    exact wantL_is hlen (fun y hy => hm y (List.mem_cons_of_mem _ hy))
end Go.Proofs.Ytbfogcckbhkciaa.Hand
namespace Go.Proofs.Ytbfogcckbhkciaa.Hand
open Go.RowKit Go.Maps Go.Proofs.YtbfogcckbhkciaaW.PrintWords Go.ChangeShapes Go.WideShapes
set_option linter.unusedVariables false
set_option linter.unusedSimpArgs false
theorem sized_flat {H : Type} {enc : TypeId × Value → H} {P : Program} {W : World} {base : Nat} {spare : Nat → Bool} {held : Bool} {t e : TypeId} {a : Option Addr} {len cap : Nat} {d : DataW H} {ps : List MemPlace} {ts : List TypeId} {ds : List (DataW H)} {j : Nat}
    (hsz : (DataW.weightsEach P ts ds).all (· ≤ reachBytes) = true) (ht : ts[j]? = some t) (hd : ds[j]? = some d) (hu : P.underlying t = some (.slice e)) {B : Nat} (hB : P.bytesOf e = B)
    (h : DataW.Trod enc P W base spare held t (.slice a len cap) d ps) : len * B ≤ 140737488351232 := by
  obtain ⟨fuel, hf⟩ := h
  rcases Go.Deep.open_slice hu hf with ⟨hcs, _⟩ | ⟨x, l, c, m, n, D, Pl, hcs, _, hl, _, hm, hx, _⟩
  · simp [Value.cells] at hcs
    obtain ⟨rfl, rfl, rfl⟩ := hcs
    simp
  · simp [Value.cells] at hcs
    obtain ⟨rfl, rfl, rfl⟩ := hcs
    obtain ⟨hx, _⟩ := Prod.mk.inj hx
    subst hx
    have z := sized_slice hsz ht hd hu
    rw [hB, List.length_map, List.length_range, List.length_map, List.length_range] at z
    exact Nat.le_trans (Nat.mul_le_mul_right _ (by omega)) z
end Go.Proofs.Ytbfogcckbhkciaa.Hand
namespace Go.Proofs.Ytbfogcckbhkciaa.Hand
open Go.RowKit Go.Maps Go.Proofs.YtbfogcckbhkciaaW.PrintWords Go.Proofs.YtbfogcckbhkciaaW.PrintLast
set_option linter.unusedVariables false
set_option linter.unusedSimpArgs false
def at0 : Dev := Dev.of (List.replicate 160 0)
theorem at0_cln : Cln at0 20 (fun _ => zeros8) := zerosW_cln 20
section
variable {w : World} {p : Nat} {v : Value} {s f : Nat}
theorem at_open (h : HasD w p v s f at0) : Calls Try.prog 41 #[.pointer (some ⟨p, 0, none⟩), .int .i64 2, .int .i64 9] w fun e w' => ∃ (q : Nat), e = .returned (.tuple #[.pointer (some ⟨q, 0, none⟩), .int .i64 0]) ∧ HasL w' q p 2 9 1 ∧ w.heap.size ≤ q ∧ Below w.heap.size w w' := by
  have hl : at0.B.length / 8 = 20 := by rw [at0_cln.len]
  have := open4_good w p v s f at0 2 9 h (by decide) (by rw [hl]; decide)
  rw [show recD at0 2 9 = (0, []) from zerosW_rec (n := 20) (by decide) (by decide)] at this
  exact this
end
/-- The first commit, brought or refused. -/
theorem at_first (sets : List SetT) (hw : ∀ s ∈ sets, WfSt s) : ∃ (r : Int) (D : Dev) (nx : Nat) (W0 : Nat → List Int), 1 ≤ nx ∧ nx ≤ 2 ∧ Cln D 20 W0 ∧ PreW W0 ∧
    ∀ (W : World) (p : Nat) (v : Value) (s f q : Nat) (A : Option Addr) (c : Nat), HasD W p v s f at0 → HasL W q p 2 9 1 → ¬ OwnD v s f q → SetK.C W A sets.length sets →
      Calls Try.prog 42 #[.pointer (some ⟨q, 0, none⟩), .slice A sets.length c] W (fun e w' => e = .returned (.int .i64 r) ∧ HasD w' p v s f D ∧ HasL w' q p 2 9 nx ∧ Fr (fun b => OwnD v s f b ∨ b = q) W w') := by
  have h8 : at0.B.length / 8 = 20 := by rw [at0_cln.len]
  by_cases he : errW 20 2 9 1 sets = 0
  · have hr := wal_rec at0_cln (by decide) (by decide) (by decide) he hw (by decide)
    exact ⟨0, _, 2, _, by decide, by decide, hr.2, preW_commit (by decide) at0_cln he hw, fun W p v s f q A c hd hl hq hs => commit_good W q p v s f at0 2 9 1 A c sets hd hl hq (by decide) (by rw [h8]; decide) hs hw (by rw [h8]; exact he)⟩
  · refine ⟨errW 20 2 9 1 sets, at0, 1, _, by decide, by decide, at0_cln, preW_zero, fun W p v s f q A c hd hl hq hs => ?_⟩
    have := commit_bad W q p v s f at0 2 9 1 A c sets hd hl (by decide) (by rw [h8]; decide) hs (by rw [h8]; exact he)
    rw [h8] at this
    exact this.mono (fun e w' h => ⟨h.1, hd.move h.2, hl.below h.2, Fr.of_below h.2 _⟩)
theorem at_begin {D : Dev} {W0 : Nat → List Int} {nx : Nat} (hc : Cln D 20 W0) (sets : List SetT) {w : World} {p : Nat} {v : Value} {s f q : Nat} {A : Option Addr} {c : Nat} (hd : HasD w p v s f D) (hl : HasL w q p 2 9 nx) (hs : SetK.C w A sets.length sets) (he : errW 20 2 9 nx sets ≠ 0) :
    Calls Try.prog 47 #[.pointer (some ⟨q, 0, none⟩), .slice A sets.length c] w (fun e w' => e = .returned (.tuple #[.slice none 0 0, .int .i64 (errW 20 2 9 nx sets)]) ∧ Below w.heap.size w w') := by
  have h8 : D.B.length / 8 = 20 := by rw [hc.len]
  have := begin4_bad w q p v s f D 2 9 nx A c sets hd hl (by decide) (by rw [h8]; decide) hs (by rw [h8]; exact he)
  rw [h8] at this
  exact this
theorem at_begun {D : Dev} {W0 : Nat → List Int} {nx : Nat} (hc : Cln D 20 W0) (sets : List SetT) (hw : ∀ s ∈ sets, WfSt s) {w : World} {p : Nat} {v : Value} {s f q : Nat} {A : Option Addr} {c : Nat} (hd : HasD w p v s f D) (hl : HasL w q p 2 9 nx) (hs : SetK.C w A sets.length sets) (he : errW 20 2 9 nx sets = 0) :
    Calls Try.prog 47 #[.pointer (some ⟨q, 0, none⟩), .slice A sets.length c] w (fun e w' => ∃ (g c : Nat) (xs : List StepW), e = .returned (.tuple #[.slice (some ⟨g, 0, none⟩) xs.length c, .int .i64 0]) ∧ w.heap.size ≤ g ∧ (∀ t x, xs[t]? = some x → w'.cell? ⟨g, t, none⟩ = some (encW x)) ∧
      AllW w' (fun b => w.heap.size ≤ b) q p xs (walM 2 nx sets) ∧ HasL w' q p 2 9 (nx + 1) ∧ Fr (fun b => b = q) w w') := by
  have h8 : D.B.length / 8 = 20 := by rw [hc.len]
  exact begin4_good w q p v s f D 2 9 nx A c sets hd hl (by decide) (by rw [h8]; decide) hs (by rw [h8]; exact he) (errW_pos he hw)
theorem errW_valsA (n a k nx : Nat) (sets : List SetT) : errW n a k nx sets = 0 ∨ errW n a k nx sets = 1 ∨ errW n a k nx sets = 40 := by
  unfold errW
  split
  · exact .inr (.inl rfl)
  · split
    · exact .inr (.inl rfl)
    · split
      · exact .inr (.inr rfl)
      · exact .inl rfl
set_option maxRecDepth 100000 in
theorem watomic_long (A1 A2 A3 : Option Addr) (c1 c2 c3 : Nat) (first sets : List SetT) (keep : List Int) (w : World) (hk : keep.length ≤ 9223372036854775807) (hy1 : first.length ≤ 140737488351232) (hy2 : sets.length ≤ 140737488351232) (h : 20 < first.length + sets.length ∨ 100 < keep.length) : Calls Try.prog 13 #[.slice A1 first.length c1, .slice A2 sets.length c2, .slice A3 keep.length c3] w fun e w' => e = .returned (.bool true) ∧ Below w.heap.size w w' := by
  have HN := Aside0.mk (show Calls Try.prog 27 #[.int .i64 20] w (NewDev w (List.replicate 160 0)) from new_calls w 20 (by omega))
  rcases (show 20 < first.length + sets.length ∨ (first.length + sets.length ≤ 20 ∧ 100 < keep.length) by omega) with h | ⟨h, h2⟩
  all_goals
    go_enter Try.func13, Try.ntmps13
    go_wp2_with (first | (go_at_call 27; ((with_reducible refine HN.out.mono ?_); rintro e w1 ⟨p, v, s, f, rfl, hd1, hp1, hv1, hb1⟩; have HD1 := Aside0.mk (show HasD w1 p v s f at0 from hd1); have HV := Aside0.mk hv1; have HPW := Aside0.mk hp1; have HB1 := Aside0.mk hb1; clear hd1 hp1 hv1 hb1)) | (go_at_call 36; ((with_reducible refine (wal_alive _).mono ?_); rintro e w3 ⟨rfl, hb⟩; have HB3 := Aside0.mk (bel_step HB1.out hb); clear hb)))
    go_ret
    exact ⟨rfl, HB3.out⟩
set_option maxRecDepth 100000 in
set_option maxHeartbeats 1000000 in
theorem watomic_bad (A1 A2 A3 : Option Addr) (c1 c2 c3 : Nat) (first sets : List SetT) (keep : List Int) (w : World) (hs1 : SetK.C w A1 first.length first) (hw1 : ∀ s ∈ first, WfSt s) (hs2 : SetK.C w A2 sets.length sets) (hw2 : ∀ s ∈ sets, WfSt s) (hk : ReadsInt w .i64 A3 keep.length keep) (h : first.length + sets.length ≤ 20) (hkl : keep.length ≤ 100) {D : Dev} {r : Int} {nx : Nat} {W0 : Nat → List Int} (hc : Cln D 20 W0) (hcm : ∀ (W : World) (p : Nat) (v : Value) (s f q : Nat) (A : Option Addr) (c : Nat), HasD W p v s f at0 → HasL W q p 2 9 1 → ¬ OwnD v s f q → SetK.C W A first.length first →
      Calls Try.prog 42 #[.pointer (some ⟨q, 0, none⟩), .slice A first.length c] W (fun e w' => e = .returned (.int .i64 r) ∧ HasD w' p v s f D ∧ HasL w' q p 2 9 nx ∧ Fr (fun b => OwnD v s f b ∨ b = q) W w')) (he : errW 20 2 9 nx sets ≠ 0) : Calls Try.prog 13 #[.slice A1 first.length c1, .slice A2 sets.length c2, .slice A3 keep.length c3] w fun e w' => e = .returned (.bool true) ∧ Below w.heap.size w w' := by
  have HN := Aside0.mk (show Calls Try.prog 27 #[.int .i64 20] w (NewDev w (List.replicate 160 0)) from new_calls w 20 (by omega))
  have HOWN1 := Aside0.mk (fun (W : World) (hW : Below w.heap.size w W) => own4_calls W A1 c1 first (Kd.C_below hs1 hW) (by omega))
  have HOWN2 := Aside0.mk (fun (W : World) (hW : Below w.heap.size w W) => own4_calls W A2 c2 sets (Kd.C_below hs2 hW) (by omega))
  have HCM := Aside0.mk hcm
  have HDL := Aside0.mk (show D.B.length = 160 from hc.len)
  have HCL := Aside0.mk hc
  clear hs1 hw1 hs2 hw2 hk hcm hc
  rcases (show errW 20 2 9 nx sets = 1 ∨ errW 20 2 9 nx sets = 40 by have := errW_valsA 20 2 9 nx sets; omega) with hr | hr
  all_goals
    have HE := Aside0.mk he
    have HRE := Aside0.mk hr
    clear he hr
    go_enter Try.func13, Try.ntmps13
    go_wp2_with (first | (go_at_call 27; ((with_reducible refine HN.out.mono ?_); rintro e w1 ⟨p, v, s, f, rfl, hd1, hp1, hv1, hb1⟩; have HD1 := Aside0.mk (show HasD w1 p v s f at0 from hd1); have HV := Aside0.mk hv1; have HPW := Aside0.mk hp1; have HB1 := Aside0.mk hb1; clear hd1 hp1 hv1 hb1)) | (go_at_call 41; ((with_reducible refine (at_open HD1.out).mono ?_); rintro e w2 ⟨q, rfl, hl, hq, hb⟩; have HL2 := Aside0.mk hl; have HQ2 := Aside0.mk (not_own_ge HD1.out hq); have HQW := Aside0.mk (Nat.le_trans HB1.out.size hq); have HD2 := Aside0.mk (HD1.out.move hb); have HB2 := Aside0.mk (bel_step HB1.out hb); clear hl hq hb)) | (go_at_call 43; ((with_reducible refine (HOWN2.out _ HB5.out).mono ?_); rintro e w6 ⟨v6, rfl, hr6, hb6⟩; obtain ⟨A6, c6, rfl, _, hC6⟩ := flat_reads hr6; have HC6 := Aside0.mk (show SetK.C w6 A6 sets.length sets from hC6); have HD6 := Aside0.mk (HD5.out.move hb6); have HL6 := Aside0.mk (HL5.out.below hb6); have HB6 := Aside0.mk (bel_step HB5.out hb6); have HZ6 := Aside0.mk hb6; clear hr6 hC6 hb6)) | (go_at_call 43; ((with_reducible refine (HOWN1.out _ HB2.out).mono ?_); rintro e w3 ⟨v3, rfl, hr3, hb3⟩; obtain ⟨A3', c3', rfl, _, hC3⟩ := flat_reads hr3; have HC3 := Aside0.mk (show SetK.C w3 A3' first.length first from hC3); have HD3 := Aside0.mk (HD2.out.move hb3); have HL3 := Aside0.mk (HL2.out.below hb3); have HB3 := Aside0.mk (bel_step HB2.out hb3); clear hr3 hC3 hb3)) | (go_at_call 42; ((with_reducible refine (HCM.out w3 p v s f q A3' c3' HD3.out HL3.out HQ2.out HC3.out).mono ?_); rintro e w4 ⟨rfl, hd, hl, hf⟩; have HD4 := Aside0.mk hd; have HL4 := Aside0.mk hl; have HB4 := Aside0.mk (HB3.out.trans (hf.below _ HB3.out.size (fun b hb => hb.elim (fun h => HV.out b h) (fun h => h ▸ HQW.out)))); clear hd hl hf)) | (go_at_call 46; ((with_reducible refine (words_calls _ p v s f _ HD4.out HDL.out).mono ?_); rintro e w5 ⟨g5, c5, rfl, hR5, hg5, hb⟩; have HR5 := Aside0.mk hR5; have HG5 := Aside0.mk hg5; have HD5 := Aside0.mk (HD4.out.move hb); have HL5 := Aside0.mk (HL4.out.below hb); have HB5 := Aside0.mk (bel_step HB4.out hb); have HZ5 := Aside0.mk hb; clear hR5 hg5 hb)) | (go_at_call 47; ((with_reducible refine (at_begin HCL.out sets HD6.out HL6.out HC6.out HE.out).mono ?_); rw [HRE.out]; rintro e w7 ⟨rfl, hb⟩; have HB7 := Aside0.mk (bel_step HB6.out hb); clear hb)) | (go_at_call 36; ((with_reducible refine (wal_alive _).mono ?_); rintro e w8 ⟨rfl, hb⟩; have HB8 := Aside0.mk (bel_step HB7.out hb); clear hb)))
    go_ret
    exact ⟨rfl, HB8.out⟩
theorem wantL_len : ∀ {sets : List SetT} {L : List Int}, L.length = 160 → (∀ y ∈ sets, 0 ≤ y.1 ∧ y.1 < 20) → (wantL L sets).length = 160
  | [], _, h, _ => h
  | y :: sets, L, h, hm => by
    have := hm y (List.mem_cons_self ..)
    rw [wantL, List.foldl_cons]
    exact wantL_len (by rw [putB_length (by omega), h]) (fun z hz => hm z (List.mem_cons_of_mem _ hz))
/-- What stands outside the region, cut off before any step. -/
theorem at_now {D : Dev} {W0 : Nat → List Int} {nx : Nat} {sets : List SetT} (hc : Cln D 20 W0) (hok : D.Ok) (hp : PreW W0) (he : errW 20 2 9 nx sets = 0) (hw : ∀ s ∈ sets, WfSt s) (hnx : 1 ≤ nx) (i : Nat) (keep : List Int) :
    ((D.steps ((walM 2 nx sets).take i)).crash keep).B.length = 160 ∧ (recoverD ((D.steps ((walM 2 nx sets).take i)).crash keep) 2 9).B.length = 160 ∧
    ∃ N, wordsL (recoverD ((D.steps ((walM 2 nx sets).take i)).crash keep) 2 9).B = N ∧ ((i < (walM 2 nx sets).length ∧ N = wordsL D.B) ∨ N = wantL (wordsL D.B) sets) := by
  have hst : ∀ j, (D.steps ((walM 2 nx sets).take j)).Ok ∧ (D.steps ((walM 2 nx sets).take j)).B.length = D.B.length := fun j => Dev.steps_ok hok (fun m hm => walS_okm (headL_bys _ _ _) (bodyL_bys _) m (List.mem_of_mem_take hm))
  obtain ⟨W2, hx, ho, hl⟩ := cut_off (fun j => (hst j).1) hc hp he hw hnx i keep
  have hlen : ∀ j, j < 20 → (W0 j).length = 8 := fun j hj => by rw [← hc.w j hj]; exact word_length (by rw [hc.len]; omega)
  refine ⟨by rw [crash_length (hst i).1, (hst i).2, hc.len], by rw [hx.len], _, rfl, ?_⟩
  have hwant : OutW (setW W0 sets) W2 → wordsL (recoverD ((D.steps ((walM 2 nx sets).take i)).crash keep) 2 9).B = wantL (wordsL D.B) sets := fun ho => by
    rw [wordsL_is hc, wantL_is hlen (errW_ok he).1, wordsL_is hx]
    refine mapW_congr (fun j _ hj => ?_)
    rw [starW, starW]
    by_cases hr : 2 ≤ j ∧ j < 11
    · rw [if_pos hr, if_pos hr]
    · rw [if_neg hr, if_neg hr, ho j (by omega) hr]
  by_cases hi : (walM 2 nx sets).length ≤ i
  · exact .inr (hwant (hl hi))
  · rcases ho with ho | ho
    · exact .inl ⟨by omega, wordsL_out hc hx ho⟩
    · exact .inr (hwant ho)
theorem at_empty (W : World) : Kd.R (Kd.int .u8) 5 (W.alloc (.cells #[] 5)) W.heap.size (fun _ => True) (.slice (some ⟨W.heap.size, 0, none⟩) 0 0) [] :=
  Kd.R_of_own (World.ownsRow_lit (base := W.heap.size) (e := 5) (size := 1) W #[] 0 (Nat.le_refl _) (by decide) (by simp)) (fun _ _ => trivial)
theorem at_wasR {w1 : World} {base g c : Nat} {l : List Int} (h : Kd.R (Kd.int .u8) 5 w1 base (fun _ => True) (.slice (some ⟨g, 0, none⟩) 160 c) l) (hl : l.length = 160) : ReadsInt w1 .u8 (some ⟨g, 0, none⟩) 160 l := by
  obtain ⟨b, c2, e, _, hr, _⟩ := row_form h (by omega)
  simp only [Value.slice.injEq] at e
  obtain ⟨e1, _, _⟩ := e
  rw [← e1, hl] at hr
  exact hr
theorem at_wasC {w1 w2 : World} {base g c : Nat} {l : List Int} (h : Kd.R (Kd.int .u8) 5 w1 base (fun _ => True) (.slice (some ⟨g, 0, none⟩) 160 c) l) (hl : l.length = 160) (hg : w2.heap[g]? = w1.heap[g]?) : (Kd.int .u8).C w2 (some ⟨g, 0, none⟩) 160 l := by
  obtain ⟨b, c2, e, _, hr, _⟩ := row_form h (by omega)
  simp only [Value.slice.injEq] at e
  obtain ⟨e1, _, _⟩ := e
  rw [← e1, hl] at hr
  refine Kd.C_of_reads (d := (0 : Int)) ?_
  refine ⟨hr.1, hr.2.1, fun h0 => ?_⟩
  obtain ⟨ad, e2, hx⟩ := hr.2.2 h0
  obtain rfl := Option.some.inj e2
  refine ⟨_, rfl, fun j hj => ?_⟩
  rw [← hx j hj, add_plain]
  simp only [World.cell?, hg]
theorem own_fromA {v : Value} {s f n m : Nat} (h : ∀ b, OwnD v s f b → n ≤ b) (hm : m ≤ n) : ∀ b, some b = v.ownBlock → m ≤ b := fun b hb => Nat.le_trans hm (h b (Or.inl hb))
set_option maxRecDepth 100000 in
set_option maxHeartbeats 4000000 in
theorem watomic_good (A1 A2 A3 : Option Addr) (c1 c2 c3 : Nat) (first sets : List SetT) (keep : List Int) (w : World) (hs1 : SetK.C w A1 first.length first) (hw1 : ∀ s ∈ first, WfSt s) (hs2 : SetK.C w A2 sets.length sets) (hw2 : ∀ s ∈ sets, WfSt s) (hk : ReadsInt w .i64 A3 keep.length keep) (h : first.length + sets.length ≤ 20) (hkl : keep.length ≤ 100) {D : Dev} {r : Int} {nx : Nat} {W0 : Nat → List Int} (hc : Cln D 20 W0) (hp : PreW W0) (hnx : 1 ≤ nx) (hcm : ∀ (W : World) (p : Nat) (v : Value) (s f q : Nat) (A : Option Addr) (c : Nat), HasD W p v s f at0 → HasL W q p 2 9 1 → ¬ OwnD v s f q → SetK.C W A first.length first →
      Calls Try.prog 42 #[.pointer (some ⟨q, 0, none⟩), .slice A first.length c] W (fun e w' => e = .returned (.int .i64 r) ∧ HasD w' p v s f D ∧ HasL w' q p 2 9 nx ∧ Fr (fun b => OwnD v s f b ∨ b = q) W w')) (he : errW 20 2 9 nx sets = 0) : Calls Try.prog 13 #[.slice A1 first.length c1, .slice A2 sets.length c2, .slice A3 keep.length c3] w fun e w' => e = .returned (.bool true) ∧ Below w.heap.size w w' := by
  have HN := Aside0.mk (show Calls Try.prog 27 #[.int .i64 20] w (NewDev w (List.replicate 160 0)) from new_calls w 20 (by omega))
  have HOWN1 := Aside0.mk (fun (W : World) (hW : Below w.heap.size w W) => own4_calls W A1 c1 first (Kd.C_below hs1 hW) (by omega))
  have HOWN2 := Aside0.mk (fun (W : World) (hW : Below w.heap.size w W) => own4_calls W A2 c2 sets (Kd.C_below hs2 hW) (by omega))
  have HCM := Aside0.mk hcm
  have HDL := Aside0.mk (show D.B.length = 160 from hc.len)
  have HCL := Aside0.mk hc
  have HPW0 := Aside0.mk hp
  have HW2 := Aside0.mk hw2
  have HK := Aside0.mk hk
  have HS2 := Aside0.mk hs2
  have HE := Aside0.mk he
  have HNX := Aside0.mk hnx
  have HWL := Aside0.mk (show (wordsL D.B).length = 160 from by rw [wordsL, zapL_length (by rw [HDL.out]; decide), HDL.out])
  clear hs1 hw1 hs2 hw2 hk hcm hc hp he hnx
  go_enter Try.func13, Try.ntmps13
  go_wp2_with (first | (go_at_call 27; ((with_reducible refine HN.out.mono ?_); rintro e w1 ⟨p, v, s, f, rfl, hd1, hp1, hv1, hb1⟩; have HD1 := Aside0.mk (show HasD w1 p v s f at0 from hd1); have HV := Aside0.mk hv1; have HPW := Aside0.mk hp1; have HB1 := Aside0.mk hb1; clear hd1 hp1 hv1 hb1)) | (go_at_call 41; ((with_reducible refine (at_open HD1.out).mono ?_); rintro e w2 ⟨q, rfl, hl, hq, hb⟩; have HL2 := Aside0.mk hl; have HQ2 := Aside0.mk (not_own_ge HD1.out hq); have HQW := Aside0.mk (Nat.le_trans HB1.out.size hq); have HD2 := Aside0.mk (HD1.out.move hb); have HB2 := Aside0.mk (bel_step HB1.out hb); clear hl hq hb)) | (go_at_call 43; ((with_reducible refine (HOWN2.out _ HB5.out).mono ?_); rintro e w6 ⟨v6, rfl, hr6, hb6⟩; obtain ⟨A6, c6, rfl, _, hC6⟩ := flat_reads hr6; have HC6 := Aside0.mk (show SetK.C w6 A6 sets.length sets from hC6); have HD6 := Aside0.mk (HD5.out.move hb6); have HL6 := Aside0.mk (HL5.out.below hb6); have HB6 := Aside0.mk (bel_step HB5.out hb6); have HZ6 := Aside0.mk hb6; clear hr6 hC6 hb6)) | (go_at_call 43; ((with_reducible refine (HOWN1.out _ HB2.out).mono ?_); rintro e w3 ⟨v3, rfl, hr3, hb3⟩; obtain ⟨A3', c3', rfl, _, hC3⟩ := flat_reads hr3; have HC3 := Aside0.mk (show SetK.C w3 A3' first.length first from hC3); have HD3 := Aside0.mk (HD2.out.move hb3); have HL3 := Aside0.mk (HL2.out.below hb3); have HB3 := Aside0.mk (bel_step HB2.out hb3); clear hr3 hC3 hb3)) | (go_at_call 42; ((with_reducible refine (HCM.out w3 p v s f q A3' c3' HD3.out HL3.out HQ2.out HC3.out).mono ?_); rintro e w4 ⟨rfl, hd, hl, hf⟩; have HD4 := Aside0.mk hd; have HL4 := Aside0.mk hl; have HB4 := Aside0.mk (HB3.out.trans (hf.below _ HB3.out.size (fun b hb => hb.elim (fun h => HV.out b h) (fun h => h ▸ HQW.out)))); clear hd hl hf)) | (go_at_call 46; ((with_reducible refine (words_calls _ p v s f _ HD4.out HDL.out).mono ?_); rintro e w5 ⟨g5, c5, rfl, hR5, hg5, hb⟩; have HR5 := Aside0.mk hR5; have HG5 := Aside0.mk hg5; have HD5 := Aside0.mk (HD4.out.move hb); have HL5 := Aside0.mk (HL4.out.below hb); have HB5 := Aside0.mk (bel_step HB4.out hb); have HZ5 := Aside0.mk hb; clear hR5 hg5 hb)) | (go_at_call 47; ((with_reducible refine (at_begun HCL.out sets HW2.out HD6.out HL6.out HC6.out HE.out).mono ?_); rintro e w7 ⟨g7, c7, xs, rfl, hg7, hcell, hall, hl7, hf7⟩; have HG7 := Aside0.mk hg7; have HCE := Aside0.mk hcell; have HAL := Aside0.mk hall; have HL7 := Aside0.mk hl7; have HF7 := Aside0.mk hf7; have HB7 := Aside0.mk (HB6.out.trans (hf7.below _ HB6.out.size (fun b hb => hb ▸ HQW.out))); have hg5b : g5 < w5.heap.size := (by obtain ⟨b5, _, e5, _, hr5, _⟩ := row_form HR5.out (by rw [HWL.out]; decide); simp only [Value.slice.injEq, Option.some.injEq, Addr.mk.injEq] at e5; obtain ⟨ad5, e6, hx5⟩ := hr5.2.2 (by rw [HWL.out]; decide); obtain rfl := Option.some.inj e6; have := World.block_lt_of_cell? _ _ (hx5 0 (by rw [HWL.out]; decide)); rw [e5.1.1]; exact this); have HGG := Aside0.mk (show (w7.alloc (.cells #[] 5)).heap[g5]? = w5.heap[g5]? from (((below_alloc (Below.refl w7.heap.size w7) _).block g5 (Nat.lt_of_lt_of_le hg5b (Nat.le_trans HZ6.out.size hf7.size))).trans (hf7.block g5 (Nat.lt_of_lt_of_le hg5b HZ6.out.size) (fun e => by have := blk_lt HL4.out.ptr; have := HG5.out; omega))).trans (HZ6.out.block g5 hg5b)); clear hg5b hg7 hcell hall hl7 hf7)) | ((with_reducible refine gate_bi (b := .append) (xs := #[.tmp 82, .tmp 83]) rfl ?_); go_must (refine Kd.R_append_row (Value.int .u8) (0 : Int) (w0 := w7) w7.heap.size rfl (.tmp 82) (.tmp 83) 23 5 (.int .u8 0) 1 rfl Try.underlying23 info_u8 rfl (by decide) _ [] (wordsL D.B) _ 160 _ (fun _ => True) rfl rfl (fun _ _ => trivial) (at_empty w7) (at_wasC HR5.out HWL.out HGG.out) (below_alloc (Below.refl _ _) _) (by simp) (by decide) ?_); intro v8 w8 hr8 hb8 hg8 hat8; have HV8 := Aside0.mk hr8; have HB8 := Aside0.mk hb8; clear hr8 hb8 hg8 hat8))
  obtain ⟨g8, c8, rfl, hg8, _, _⟩ := own_slice_form HV8.out (by rw [List.nil_append, HWL.out]; decide)
  have HG8 := Aside0.mk hg8
  have HW8 := Aside0.mk (show Kd.R (Kd.int .u8) 5 w8 w7.heap.size (fun _ => True) (.slice (some ⟨g8, 0, none⟩) 160 c8) (wordsL D.B) from by have h1 := HV8.out; rw [List.nil_append, HWL.out] at h1; exact h1)
  rw [List.nil_append, HWL.out]
  clear hg8
  go_wp2
  go_loopw [87] (fun i wr => ∃ t : Nat, t ≤ sets.length ∧ i = .int .i64 (t : Int) ∧ Aside0 (Kd.R (Kd.int .u8) 5 wr w7.heap.size (fun _ => True) (.slice (some ⟨g8, 0, none⟩) 160 c8) (wantL (wordsL D.B) (sets.take t))) ∧ Aside0 (Below w7.heap.size w7 wr)) (fun i _ => (sets.length - intOf i).toNat)
  case atStart => exact ⟨0, Nat.zero_le _, rfl, HW8, HB8⟩
  case round =>
    obtain ⟨t, ht, rfl, HR, HB⟩ := hrel
    by_cases hlt : t < sets.length
    · obtain ⟨x, hx⟩ : ∃ x, sets[t]? = some x := ⟨_, List.getElem?_eq_getElem hlt⟩
      have HBw := Aside0.mk (HB7.out.trans (HB.out.mono HB7.out.size))
      obtain ⟨bb, ob, hA, hcb⟩ := C_at (Kd.C_below HS2.out HBw.out) (by decide) hx
      have hmx := may_range ((errW_ok HE.out).1 x (List.mem_of_getElem? hx))
      have HWT := Aside0.mk (show wantL (wordsL D.B) (sets.take (t + 1)) = putB (wantL (wordsL D.B) (sets.take t)) (8 * x.1.toNat) x.2 8 by rw [List.take_add_one, hx, Option.toList_some, wantL_snoc])
      obtain ⟨x, y⟩ := x
      have c0 : wr.cell? ⟨bb, ob + t * 2, none⟩ = some (.int .i64 x) := hcb 0 (by decide)
      have c1 : wr.cell? ⟨bb, ob + t * 2 + 1, none⟩ = some (.int .u64 y) := hcb 1 (by decide)
      obtain ⟨hx0, hx1⟩ := hmx
      have hx0 : 0 ≤ x := hx0
      have hx1 : x < 20 := hx1
      subst hA
      clear hcb hx
      have HWY := Aside0.mk (show wantL (wordsL D.B) (sets.take (t + 1)) = putB (wantL (wordsL D.B) (sets.take t)) (8 * x.toNat) y 8 from HWT.out)
      obtain ⟨L, hL⟩ : ∃ L, L = wantL (wordsL D.B) (sets.take t) := ⟨_, rfl⟩
      rw [← hL] at HR HWY HWT
      have HLL := Aside0.mk (show L.length = 160 from by rw [hL, wantL_len HWL.out (fun y hy => by have := may_range ((errW_ok HE.out).1 y (List.mem_of_mem_take hy)); exact ⟨this.1, this.2⟩)])
      have HN9 := Aside0.mk (heap_alloc_new wr (.cells #[.int .i64 x, .int .u64 y] 76))
      have HR9 := Aside0.mk (show Kd.R (Kd.int .u8) 5 (wr.alloc (.cells #[.int .i64 x, .int .u64 y] 76)) w7.heap.size (fun _ => True) (.slice (some ⟨g8, 0, none⟩) 160 c8) (putB L (8 * x.toNat) y 0) from by rw [putB_zero]; exact Kd.R_below HR.out (below_alloc (Below.refl _ _) _))
      have HB9 := Aside0.mk (below_alloc HB.out (.cells #[.int .i64 x, .int .u64 y] 76))
      go_wp2
      obtain ⟨b9, hb9⟩ : ∃ b, b = wr.heap.size := ⟨_, rfl⟩
      rw [← hb9] at HN9 ⊢
      have hgb : g8 < b9 := by rw [hb9]; exact World.block_lt_of_cell? wr _ (Kd.R_celln (d := (0 : Int)) HR.out 0 (by omega) (by omega)).1
      clear hb9
      go_loopw [91] (fun i wi => ∃ j : Nat, j ≤ 8 ∧ i = .int .i64 (j : Int) ∧ Aside0 (wi.heap[b9]? = some (.cells #[.int .i64 x, .int .u64 y] 76)) ∧ Aside0 (Kd.R (Kd.int .u8) 5 wi w7.heap.size (fun _ => True) (.slice (some ⟨g8, 0, none⟩) 160 c8) (putB L (8 * x.toNat) y j)) ∧ Aside0 (Below w7.heap.size w7 wi)) (fun i _ => (8 - intOf i).toNat)
      case atStart => exact ⟨0, Nat.zero_le _, rfl, HN9, HR9, HB9⟩
      case round =>
        obtain ⟨j, hj, rfl, HNj, HRj, HBj⟩ := hrel
        by_cases hlj : j < 8
        · have d0 := blk_cell HNj.out (i := 0) rfl
          have d1 := blk_cell HNj.out (i := 1) rfl
          have e8 : (x * 8 + (j : Int)).toNat = 8 * x.toNat + j := by omega
          obtain ⟨hgc, hgf⟩ := Kd.R_celln (d := (0 : Int)) HRj.out (x * 8 + (j : Int)) (by omega) (by omega)
          obtain ⟨bv, hbv⟩ : ∃ bv, bv = rdOf 0 (putB L (8 * x.toNat) y j) (x * 8 + (j : Int)) := ⟨_, rfl⟩
          rw [← hbv] at hgc
          rw [e8] at hgc hgf
          have hgc : wr.cell? ⟨g8, 8 * x.toNat + j, none⟩ = some (.int .u8 bv) := hgc
          clear hbv
          have EW1 := Aside0.mk (show IntKind.i64.wrap (x * 8) = x * 8 from IntWalk.i64_in _ (by omega))
          have EW2 := Aside0.mk (show IntKind.i64.wrap (x * 8 + j) = x * 8 + j from IntWalk.i64_in _ (by omega))
          have EW3 := Aside0.mk (show 0 ≤ x * 8 + (j : Int) ∧ x * 8 + (j : Int) < 160 by omega)
          have EW4 := Aside0.mk e8
          have EW5 := Aside0.mk (show IntKind.i64.wrap (8 * (j : Int)) = 8 * j from IntWalk.i64_in _ (by omega))
          have EW6 := Aside0.mk (show (8 * (j : Int)).toNat = 8 * j by omega)
          have EW7 := Aside0.mk (show IntKind.u8.wrap (y / 2 ^ (8 * j)) = y / 2 ^ (8 * j) % 256 from by first | rfl | (simp [IntKind.wrap]; done) | (unfold IntKind.wrap; rfl))
          have HPL := Aside0.mk (show 8 * x.toNat + j < L.length from by rw [HLL.out]; omega)
          clear e8
          go_wp2
          refine start_ (n := 14) (S := fun w' => w'.cell? ⟨b9, 0, none⟩ = some (.int .i64 x) ∧ w'.cell? ⟨b9, 1, none⟩ = some (.int .u64 y) ∧ w'.cell? ⟨g8, 8 * x.toNat + j, none⟩ = some (.int .u8 bv) ∧ w'.frozen? ⟨g8, 8 * x.toNat + j, none⟩ = false) (ds := [13]) #[false, false, false, false, false, false, false, false, false, false, false, false, false, false] (by kernel_rfl) rfl rfl ⟨d0, d1, hgc, hgf⟩ (fun hHeld => ?_)
          refine pure_ (i := 0) (N := some 94) (v := ?_) (a' := ?_) #[true, false, false, false, false, false, false, false, false, false, false, false, false, false] rfl rfl (by kernel_rfl) (fun _ _ _ h => h) (Or.inl ⟨by rfl, ?_⟩) ?_ ?_
          rotate_left
          · intro w'
            go_simp
            with_reducible rfl
          rotate_left
          · simp only [Act.put, List.setIfInBounds_toArray, List.set_cons_zero, List.set_cons_succ, i64_w, i32_w]
            rfl
          refine pure_ (i := 1) (N := some 95) (v := ?_) (a' := ?_) #[true, true, false, false, false, false, false, false, false, false, false, false, false, false] rfl rfl (by kernel_rfl) (fun _ _ _ h => h) (Or.inl ⟨by rfl, ?_⟩) ?_ ?_
          rotate_left
          · intro w'
            go_simp
            with_reducible rfl
          rotate_left
          · simp only [Act.put, List.setIfInBounds_toArray, List.set_cons_zero, List.set_cons_succ, i64_w, i32_w]
            rfl
          refine pure_ (i := 4) (N := some 98) (v := ?_) (a' := ?_) #[true, true, false, false, true, false, false, false, false, false, false, false, false, false] rfl rfl (by kernel_rfl) (fun _ _ _ h => h) (Or.inl ⟨by rfl, ?_⟩) ?_ ?_
          rotate_left
          · intro w'
            go_simp
            with_reducible rfl
          rotate_left
          · simp only [Act.put, List.setIfInBounds_toArray, List.set_cons_zero, List.set_cons_succ, i64_w, i32_w]
            rfl
          refine pure_ (i := 6) (N := some 100) (v := ?_) (a' := ?_) #[true, true, false, false, true, false, true, false, false, false, false, false, false, false] rfl rfl (by kernel_rfl) (fun _ _ _ h => h) (Or.inl ⟨by rfl, ?_⟩) ?_ ?_
          rotate_left
          · intro w'
            go_simp
            with_reducible rfl
          rotate_left
          · simp only [Act.put, List.setIfInBounds_toArray, List.set_cons_zero, List.set_cons_succ, i64_w, i32_w]
            rfl
          refine pure_ (i := 8) (N := some 102) (v := ?_) (a' := ?_) #[true, true, false, false, true, false, true, false, true, false, false, false, false, false] rfl rfl (by kernel_rfl) (fun _ _ _ h => h) (Or.inl ⟨by rfl, ?_⟩) ?_ ?_
          rotate_left
          · intro w'
            go_simp
            with_reducible rfl
          rotate_left
          · simp only [Act.put, List.setIfInBounds_toArray, List.set_cons_zero, List.set_cons_succ, i64_w, i32_w]
            rfl
          refine pure_ (i := 9) (N := some 103) (v := ?_) (a' := ?_) #[true, true, false, false, true, false, true, false, true, true, false, false, false, false] rfl rfl (by kernel_rfl) (fun _ _ _ h => h) (Or.inl ⟨by rfl, ?_⟩) ?_ ?_
          rotate_left
          · intro w'
            go_simp
            rw [EW5.out]
            try with_reducible rfl
          rotate_left
          · simp only [Act.put, List.setIfInBounds_toArray, List.set_cons_zero, List.set_cons_succ, i64_w, i32_w]
            rfl
          refine take_ (i := 2) (N := some 96) (v := ?_) (a' := ?_) #[true, true, true, false, true, false, true, false, true, true, false, false, false, false] rfl rfl (by kernel_rfl) (fun _ _ _ h => h) (Or.inl ⟨by rfl, ?_⟩) hHeld ?_ ?_
          rotate_left
          · rintro w' ⟨s0, s1, s2, s3⟩
            go_simp
            with_reducible rfl
          rotate_left
          · simp only [Act.put, List.setIfInBounds_toArray, List.set_cons_zero, List.set_cons_succ, i64_w, i32_w]
            rfl
          refine pure_ (i := 3) (N := some 97) (v := ?_) (a' := ?_) #[true, true, true, true, true, false, true, false, true, true, false, false, false, false] rfl rfl (by kernel_rfl) (fun _ _ _ h => h) (Or.inl ⟨by rfl, ?_⟩) ?_ ?_
          rotate_left
          · intro w'
            go_simp
            rw [EW1.out]
            try with_reducible rfl
          rotate_left
          · simp only [Act.put, List.setIfInBounds_toArray, List.set_cons_zero, List.set_cons_succ, i64_w, i32_w]
            rfl
          refine pure_ (i := 5) (N := some 99) (v := ?_) (a' := ?_) #[true, true, true, true, true, true, true, false, true, true, false, false, false, false] rfl rfl (by kernel_rfl) (fun _ _ _ h => h) (Or.inl ⟨by rfl, ?_⟩) ?_ ?_
          rotate_left
          · intro w'
            go_simp
            rw [EW2.out]
            try with_reducible rfl
          rotate_left
          · simp only [Act.put, List.setIfInBounds_toArray, List.set_cons_zero, List.set_cons_succ, i64_w, i32_w]
            rfl
          refine take_ (i := 7) (N := some 101) (v := ?_) (a' := ?_) #[true, true, true, true, true, true, true, true, true, true, false, false, false, false] rfl rfl (by kernel_rfl) (fun _ _ _ h => h) (Or.inl ⟨by rfl, ?_⟩) hHeld ?_ ?_
          rotate_left
          · rintro w' ⟨s0, s1, s2, s3⟩
            go_simp
            with_reducible rfl
          rotate_left
          · simp only [Act.put, List.setIfInBounds_toArray, List.set_cons_zero, List.set_cons_succ, i64_w, i32_w]
            rfl
          refine pure_ (i := 10) (N := some 104) (v := ?_) (a' := ?_) #[true, true, true, true, true, true, true, true, true, true, true, false, false, false] rfl rfl (by kernel_rfl) (fun _ _ _ h => h) (Or.inl ⟨by rfl, ?_⟩) ?_ ?_
          rotate_left
          · intro w'
            go_simp
            rw [EW6.out]
            try with_reducible rfl
          rotate_left
          · simp only [Act.put, List.setIfInBounds_toArray, List.set_cons_zero, List.set_cons_succ, i64_w, i32_w]
            rfl
          refine pure_ (i := 11) (N := some 105) (v := ?_) (a' := ?_) #[true, true, true, true, true, true, true, true, true, true, true, true, false, false] rfl rfl (by kernel_rfl) (fun _ _ _ h => h) (Or.inl ⟨by rfl, ?_⟩) ?_ ?_
          rotate_left
          · intro w'
            go_simp
            rw [EW7.out]
            try with_reducible rfl
          rotate_left
          · simp only [Act.put, List.setIfInBounds_toArray, List.set_cons_zero, List.set_cons_succ, i64_w, i32_w]
            rfl
          refine pure_ (i := 12) (N := some 106) (v := ?_) (a' := ?_) #[true, true, true, true, true, true, true, true, true, true, true, true, true, false] rfl rfl (by kernel_rfl) (fun _ _ _ h => h) (Or.inl ⟨by rfl, ?_⟩) ?_ ?_
          rotate_left
          · intro w'
            go_simp
            rw [if_pos EW3.out, EW4.out]
            try with_reducible rfl
          rotate_left
          · simp only [Act.put, List.setIfInBounds_toArray, List.set_cons_zero, List.set_cons_succ, i64_w, i32_w]
            rfl
          refine last_ (i := 13) (N := none) #[true, true, true, true, true, true, true, true, true, true, true, true, true, true] rfl rfl (by kernel_rfl) (by decide) (fun K hK => ?_)
          refine skip_ (w1 := ?_) (by rfl) rfl ?_ ?_
          rotate_left
          · go_simp
            rfl
          refine hK.out _ _ ?_
          clear hK K
          refine done_ (by kernel_rfl) ?_
          go_wp2
          refine ⟨⟨j + 1, by omega, by go_num, ⟨?_⟩, ⟨?_⟩, ⟨?_⟩⟩, by simp [intOf]; omega⟩
          · exact (Below.heap_setCell _ _ _ _ (by show b9 ≠ g8; omega)).trans HNj.out
          · have := Kd.R_putn HRj.out (x * 8 + (j : Int)) (y / 2 ^ (8 * j) % 256)
            rw [EW4.out, putB_succ HPL.out] at this
            exact this
          · exact HBj.out.drew.setCell (p := ⟨g8, 8 * x.toNat + j, none⟩) HG8.out (.int .u8 (y / 2 ^ (8 * j) % 256))
        · obtain rfl : j = 8 := by omega
          go_wp2
          go_roundw
          case rel => exact ⟨t + 1, by omega, by go_num, ⟨by rw [HWY.out]; exact HRj.out⟩, HBj⟩
          case measure => simp [intOf]; omega
    · obtain rfl : t = sets.length := by omega
      rw [List.take_of_length_le (Nat.le_refl _)] at HR
      obtain ⟨L, hL⟩ : ∃ L, L = wantL (wordsL D.B) sets := ⟨_, rfl⟩
      rw [← hL] at HR
      have HLW := Aside0.mk hL
      have HLL := Aside0.mk (show L.length = 160 from by rw [hL, wantL_len HWL.out (fun y hy => by have := may_range ((errW_ok HE.out).1 y hy); exact ⟨this.1, this.2⟩)])
      have HTO := Aside0.mk (show ∀ b, w6.heap.size ≤ b → ¬ OwnD v s f b from fun b hb => not_own_ge HD6.out hb)
      have HF7r := Aside0.mk (show Fr (OwnD v s f) w7 wr from Fr.of_below HB.out _)
      have HD7 := Aside0.mk (HD6.out.fr HF7.out (HL6.out.ne_dev HD6.out) (fun b hb e => HQ2.out (e ▸ hb)))
      have HDr := Aside0.mk (HD7.out.move HB.out)
      have HXL := Aside0.mk HAL.out.len
      have HML := Aside0.mk (show (walM 2 nx sets).length ≤ 400 from by rw [walM, walS_length]; omega)
      have hxl2 : xs.length ≤ 400 := by have := HXL.out; have := HML.out; omega
      have HOK := Aside0.mk (show ∀ m ∈ walM 2 nx sets, OkM m from walS_okm (headL_bys _ _ _) (bodyL_bys _))
      have HNOW := Aside0.mk (fun i => at_now HCL.out HD7.out.ok HPW0.out HE.out HW2.out HNX.out i keep)
      rw [← HLW.out] at HNOW
      obtain ⟨ms, hms⟩ : ∃ ms, ms = walM 2 nx sets := ⟨_, rfl⟩
      rw [← hms] at HAL HXL HML HOK HNOW
      have HR5r := Aside0.mk (show ReadsInt wr .u8 (some ⟨g5, 0, none⟩) 160 (wordsL D.B) from by
        exact (reads_frA ((at_wasR HR5.out HWL.out).below HZ6.out) HF7.out (fun _ ad e h => by obtain rfl := Option.some.inj e; have h1 : g5 = q := h; have := blk_lt HL4.out.ptr; have := HG5.out; omega)).below HB.out)
      have HBr := Aside0.mk (HB7.out.trans (HB.out.mono HB7.out.size))
      clear hL hms
      go_wp2
      go_loopw [112] (fun i wq => ∃ k : Nat, k ≤ xs.length + 1 ∧ i = .int .i64 (k : Int) ∧ Aside0 (HasD wq p v s f (D.steps (ms.take k))) ∧ Aside0 (Fr (OwnD v s f) wr wq)) (fun i _ => (xs.length + 1 - intOf i).toNat)
      case atStart => exact ⟨0, Nat.zero_le _, rfl, HDr, ⟨Fr.refl _ _⟩⟩
      case round =>
        obtain ⟨k, hk, rfl, HDk, HFk⟩ := hrel
        have HBk := Aside0.mk (HBr.out.trans (HFk.out.below _ HBr.out.size (fun b hb => HV.out b hb)))
        by_cases hlk : k < xs.length + 1
        · obtain ⟨hl1, hl2, N, hN, hNN⟩ := HNOW.out k
          have HL1 := Aside0.mk hl1
          have HL2R := Aside0.mk hl2
          have HN2 := Aside0.mk hN
          have HC5 := Aside0.mk (reads_frA HR5r.out HFk.out (fun _ ad e => by obtain rfl := Option.some.inj e; exact not_own_ge HD4.out HG5.out))
          have HCW := Aside0.mk (reads_frA (at_wasR HR.out HLL.out) HFk.out (fun _ ad e => by obtain rfl := Option.some.inj e; exact HTO.out _ (Nat.le_trans HF7.out.size HG8.out)))
          have HCP := Aside0.mk (fun (W : World) (hh : HasD W p v s f (D.steps (ms.take k))) => copy_calls W p v s f _ hh)
          have HRV := Aside0.mk (fun (W : World) (q : Nat) (u : Value) (s f : Nat) (hh : HasD W q u s f ((D.steps (ms.take k)).crash keep)) => show Calls Try.prog 37 #[.pointer (some ⟨q, 0, none⟩), .int .i64 2, .int .i64 9] W (RecoverE W q u s f ((D.steps (ms.take k)).crash keep) 2 9) from recover4_good W q u s f _ 2 9 hh (by decide) (by rw [HL1.out]; decide))
          obtain ⟨C, hC⟩ : ∃ C, C = (D.steps (ms.take k)).crash keep := ⟨_, rfl⟩
          rw [← hC] at HL1 HL2R HN2 HRV
          have HCC := Aside0.mk hC
          clear hl1 hl2 hN hC
          rcases hNN with ⟨hki, hNW⟩ | hNW
          · have hlt : k < xs.length := by have := HXL.out; omega
            rw [hNW] at HN2
            have HNL := HWL
            clear hNW
            obtain ⟨x, hx⟩ : ∃ x, xs[k]? = some x := ⟨_, List.getElem?_eq_getElem hlt⟩
            obtain ⟨m, hm, hst1⟩ := HAL.out.get hx
            have HFW := Aside0.mk (HF7r.out.trans' HFk.out)
            have hst := hst1.move HFW.out HTO.out
            have HCX := Aside0.mk (HFW.out.cell (HCE.out k x hx) (HTO.out _ HG7.out))
            have HTK := Aside0.mk (take_steps (d := D) hm)
            have hok := HOK.out m (List.mem_of_getElem? hm)
            have hlq := (HL7.out.fr HFW.out HQ2.out).cells.1
            clear hst1 hm hx
            cases x with
            | wr bd ba bx =>
              cases m with
              | wr a y =>
                have HDO := Aside0.mk (fun (W : World) (hb : Below wr.heap.size wr W) (hh : HasD W p v s f (D.steps (ms.take k))) => stepW_wr W q p v s f _ _ bd ba bx a y hh (bel_cell hb hlq) (hst.move (S := fun _ => False) (Fr.of_below hb _) (fun _ _ h => h)) hok)
                simp only [encW] at HCX
                clear hst hok hlq
                go_wp2_with (first | (go_at_call 29; ((with_reducible refine (HCP.out _ HDk.out).mono ?_); rintro e w9 ⟨qc, uc, sc, fc, rfl, hd9, hq9, ho9, hb9⟩; have HD9 := Aside0.mk hd9; have HO9 := Aside0.mk ho9; have HK9 := Aside0.mk hb9; clear hd9 hq9 ho9 hb9)) | (go_at_call 30; go_must ((with_reducible refine (crash_calls _ qc uc sc fc _ A3 c3 keep HD9.out (HK.out.below (bel_step HBk.out HK9.out)) (reads_off HK.out (own_fromA HO9.out HBk.out.size))).mono ?_); rintro e wA ⟨rfl, hdA, hfA⟩; rw [← HCC.out] at hdA; have HDA := Aside0.mk hdA; have HKA := Aside0.mk (HK9.out.trans (hfA.below _ HK9.out.size (fun b hb => HO9.out b hb))); clear hdA hfA)) | (go_at_call 37; go_must ((with_reducible refine (HRV.out _ qc uc sc fc HDA.out).mono ?_); rintro e wB ⟨rfl, hdB, hfB⟩; have HDB := Aside0.mk hdB; have HKB := Aside0.mk (HKA.out.trans (hfB.below _ HKA.out.size (fun b hb => HO9.out b hb))); clear hdB hfB)) | (go_at_call 46; go_must ((with_reducible refine (words_calls _ qc uc sc fc _ HDB.out HL2R.out).mono ?_); rintro e wC ⟨gC, cC, rfl, hRC, hgC, hbC⟩; rw [HN2.out] at hRC; have HKC := Aside0.mk (bel_step HKB.out hbC); have hcvn := conv_n (c := cC) (at_wasR hRC HNL.out); have hcvw := conv_n (c := c5) (HC5.out.below HKC.out); have hcvq := conv_n (c := c8) (HCW.out.below HKC.out); have hcxC := bel_cell HKC.out HCX.out; have HDC := Aside0.mk (HDk.out.move HKC.out); clear hRC hgC hbC)) | (go_at_call 114; go_must ((with_reducible refine (HDO.out _ HKC.out HDC.out).mono ?_); rintro e wE ⟨rfl, hdE, hfE⟩; have HDE := Aside0.mk hdE; have HFE := Aside0.mk ((HFk.out.then_below HKC.out).trans' hfE); clear hdE hfE)))
                all_goals
                  refine ⟨⟨k + 1, by omega, by go_num, ⟨?_⟩, HFE⟩, by simp [intOf]; omega⟩
                  rw [HTK.out]
                  exact HDE.out
              | fl a n => exact hst.elim
              | fe => exact hst.elim
            | fl bd ba bn =>
              cases m with
              | fl a n =>
                have HDO := Aside0.mk (fun (W : World) (hb : Below wr.heap.size wr W) (hh : HasD W p v s f (D.steps (ms.take k))) => stepW_fl W q p v s f _ _ bd ba bn a n hh (bel_cell hb hlq) (hst.move (S := fun _ => False) (Fr.of_below hb _) (fun _ _ h => h)))
                simp only [encW] at HCX
                clear hst hok hlq
                go_wp2_with (first | (go_at_call 29; ((with_reducible refine (HCP.out _ HDk.out).mono ?_); rintro e w9 ⟨qc, uc, sc, fc, rfl, hd9, hq9, ho9, hb9⟩; have HD9 := Aside0.mk hd9; have HO9 := Aside0.mk ho9; have HK9 := Aside0.mk hb9; clear hd9 hq9 ho9 hb9)) | (go_at_call 30; go_must ((with_reducible refine (crash_calls _ qc uc sc fc _ A3 c3 keep HD9.out (HK.out.below (bel_step HBk.out HK9.out)) (reads_off HK.out (own_fromA HO9.out HBk.out.size))).mono ?_); rintro e wA ⟨rfl, hdA, hfA⟩; rw [← HCC.out] at hdA; have HDA := Aside0.mk hdA; have HKA := Aside0.mk (HK9.out.trans (hfA.below _ HK9.out.size (fun b hb => HO9.out b hb))); clear hdA hfA)) | (go_at_call 37; go_must ((with_reducible refine (HRV.out _ qc uc sc fc HDA.out).mono ?_); rintro e wB ⟨rfl, hdB, hfB⟩; have HDB := Aside0.mk hdB; have HKB := Aside0.mk (HKA.out.trans (hfB.below _ HKA.out.size (fun b hb => HO9.out b hb))); clear hdB hfB)) | (go_at_call 46; go_must ((with_reducible refine (words_calls _ qc uc sc fc _ HDB.out HL2R.out).mono ?_); rintro e wC ⟨gC, cC, rfl, hRC, hgC, hbC⟩; rw [HN2.out] at hRC; have HKC := Aside0.mk (bel_step HKB.out hbC); have hcvn := conv_n (c := cC) (at_wasR hRC HNL.out); have hcvw := conv_n (c := c5) (HC5.out.below HKC.out); have hcvq := conv_n (c := c8) (HCW.out.below HKC.out); have hcxC := bel_cell HKC.out HCX.out; have HDC := Aside0.mk (HDk.out.move HKC.out); clear hRC hgC hbC)) | (go_at_call 115; go_must ((with_reducible refine (HDO.out _ HKC.out HDC.out).mono ?_); rintro e wE ⟨rfl, hdE, hfE⟩; have HDE := Aside0.mk hdE; have HFE := Aside0.mk ((HFk.out.then_below HKC.out).trans' hfE); clear hdE hfE)))
                all_goals
                  refine ⟨⟨k + 1, by omega, by go_num, ⟨?_⟩, HFE⟩, by simp [intOf]; omega⟩
                  rw [HTK.out]
                  exact HDE.out
              | wr a n => exact hst.elim
              | fe => exact hst.elim
            | fe r =>
              cases m with
              | fe =>
                obtain rfl : r = p := hst
                have HDO := Aside0.mk (fun (W : World) (hb : Below wr.heap.size wr W) (hh : HasD W r v s f (D.steps (ms.take k))) => stepW_fe W r v s f _ hh)
                simp only [encW] at HCX
                clear hok hlq
                go_wp2_with (first | (go_at_call 29; ((with_reducible refine (HCP.out _ HDk.out).mono ?_); rintro e w9 ⟨qc, uc, sc, fc, rfl, hd9, hq9, ho9, hb9⟩; have HD9 := Aside0.mk hd9; have HO9 := Aside0.mk ho9; have HK9 := Aside0.mk hb9; clear hd9 hq9 ho9 hb9)) | (go_at_call 30; go_must ((with_reducible refine (crash_calls _ qc uc sc fc _ A3 c3 keep HD9.out (HK.out.below (bel_step HBk.out HK9.out)) (reads_off HK.out (own_fromA HO9.out HBk.out.size))).mono ?_); rintro e wA ⟨rfl, hdA, hfA⟩; rw [← HCC.out] at hdA; have HDA := Aside0.mk hdA; have HKA := Aside0.mk (HK9.out.trans (hfA.below _ HK9.out.size (fun b hb => HO9.out b hb))); clear hdA hfA)) | (go_at_call 37; go_must ((with_reducible refine (HRV.out _ qc uc sc fc HDA.out).mono ?_); rintro e wB ⟨rfl, hdB, hfB⟩; have HDB := Aside0.mk hdB; have HKB := Aside0.mk (HKA.out.trans (hfB.below _ HKA.out.size (fun b hb => HO9.out b hb))); clear hdB hfB)) | (go_at_call 46; go_must ((with_reducible refine (words_calls _ qc uc sc fc _ HDB.out HL2R.out).mono ?_); rintro e wC ⟨gC, cC, rfl, hRC, hgC, hbC⟩; rw [HN2.out] at hRC; have HKC := Aside0.mk (bel_step HKB.out hbC); have hcvn := conv_n (c := cC) (at_wasR hRC HNL.out); have hcvw := conv_n (c := c5) (HC5.out.below HKC.out); have hcvq := conv_n (c := c8) (HCW.out.below HKC.out); have hcxC := bel_cell HKC.out HCX.out; have HDC := Aside0.mk (HDk.out.move HKC.out); clear hRC hgC hbC)) | (go_at_call 24; go_must ((with_reducible refine (HDO.out _ HKC.out HDC.out).mono ?_); rintro e wE ⟨rfl, hdE, hfE⟩; have HDE := Aside0.mk hdE; have HFE := Aside0.mk ((HFk.out.then_below HKC.out).trans' hfE); clear hdE hfE)))
                all_goals
                  refine ⟨⟨k + 1, by omega, by go_num, ⟨?_⟩, HFE⟩, by simp [intOf]; omega⟩
                  rw [HTK.out]
                  exact HDE.out
              | wr a n => exact hst.elim
              | fl a n => exact hst.elim
          · rw [hNW] at HN2
            have HNL := HLL
            clear hNW
            by_cases hsq : strOfNums L = strOfNums (wordsL D.B)
            · by_cases hlt : k < xs.length
              · obtain ⟨x, hx⟩ : ∃ x, xs[k]? = some x := ⟨_, List.getElem?_eq_getElem hlt⟩
                obtain ⟨m, hm, hst1⟩ := HAL.out.get hx
                have HFW := Aside0.mk (HF7r.out.trans' HFk.out)
                have hst := hst1.move HFW.out HTO.out
                have HCX := Aside0.mk (HFW.out.cell (HCE.out k x hx) (HTO.out _ HG7.out))
                have HTK := Aside0.mk (take_steps (d := D) hm)
                have hok := HOK.out m (List.mem_of_getElem? hm)
                have hlq := (HL7.out.fr HFW.out HQ2.out).cells.1
                clear hst1 hm hx
                cases x with
                | wr bd ba bx =>
                  cases m with
                  | wr a y =>
                    have HDO := Aside0.mk (fun (W : World) (hb : Below wr.heap.size wr W) (hh : HasD W p v s f (D.steps (ms.take k))) => stepW_wr W q p v s f _ _ bd ba bx a y hh (bel_cell hb hlq) (hst.move (S := fun _ => False) (Fr.of_below hb _) (fun _ _ h => h)) hok)
                    simp only [encW] at HCX
                    clear hst hok hlq
                    go_wp2_with (first | (go_at_call 29; ((with_reducible refine (HCP.out _ HDk.out).mono ?_); rintro e w9 ⟨qc, uc, sc, fc, rfl, hd9, hq9, ho9, hb9⟩; have HD9 := Aside0.mk hd9; have HO9 := Aside0.mk ho9; have HK9 := Aside0.mk hb9; clear hd9 hq9 ho9 hb9)) | (go_at_call 30; go_must ((with_reducible refine (crash_calls _ qc uc sc fc _ A3 c3 keep HD9.out (HK.out.below (bel_step HBk.out HK9.out)) (reads_off HK.out (own_fromA HO9.out HBk.out.size))).mono ?_); rintro e wA ⟨rfl, hdA, hfA⟩; rw [← HCC.out] at hdA; have HDA := Aside0.mk hdA; have HKA := Aside0.mk (HK9.out.trans (hfA.below _ HK9.out.size (fun b hb => HO9.out b hb))); clear hdA hfA)) | (go_at_call 37; go_must ((with_reducible refine (HRV.out _ qc uc sc fc HDA.out).mono ?_); rintro e wB ⟨rfl, hdB, hfB⟩; have HDB := Aside0.mk hdB; have HKB := Aside0.mk (HKA.out.trans (hfB.below _ HKA.out.size (fun b hb => HO9.out b hb))); clear hdB hfB)) | (go_at_call 46; go_must ((with_reducible refine (words_calls _ qc uc sc fc _ HDB.out HL2R.out).mono ?_); rintro e wC ⟨gC, cC, rfl, hRC, hgC, hbC⟩; rw [HN2.out] at hRC; have HKC := Aside0.mk (bel_step HKB.out hbC); have hcvn := conv_n (c := cC) (at_wasR hRC HNL.out); have hcvw := conv_n (c := c5) (HC5.out.below HKC.out); have hcvq := conv_n (c := c8) (HCW.out.below HKC.out); have hcxC := bel_cell HKC.out HCX.out; have HDC := Aside0.mk (HDk.out.move HKC.out); clear hRC hgC hbC)) | (go_at_call 114; go_must ((with_reducible refine (HDO.out _ HKC.out HDC.out).mono ?_); rintro e wE ⟨rfl, hdE, hfE⟩; have HDE := Aside0.mk hdE; have HFE := Aside0.mk ((HFk.out.then_below HKC.out).trans' hfE); clear hdE hfE)))
                    all_goals
                      refine ⟨⟨k + 1, by omega, by go_num, ⟨?_⟩, HFE⟩, by simp [intOf]; omega⟩
                      rw [HTK.out]
                      exact HDE.out
                  | fl a n => exact hst.elim
                  | fe => exact hst.elim
                | fl bd ba bn =>
                  cases m with
                  | fl a n =>
                    have HDO := Aside0.mk (fun (W : World) (hb : Below wr.heap.size wr W) (hh : HasD W p v s f (D.steps (ms.take k))) => stepW_fl W q p v s f _ _ bd ba bn a n hh (bel_cell hb hlq) (hst.move (S := fun _ => False) (Fr.of_below hb _) (fun _ _ h => h)))
                    simp only [encW] at HCX
                    clear hst hok hlq
                    go_wp2_with (first | (go_at_call 29; ((with_reducible refine (HCP.out _ HDk.out).mono ?_); rintro e w9 ⟨qc, uc, sc, fc, rfl, hd9, hq9, ho9, hb9⟩; have HD9 := Aside0.mk hd9; have HO9 := Aside0.mk ho9; have HK9 := Aside0.mk hb9; clear hd9 hq9 ho9 hb9)) | (go_at_call 30; go_must ((with_reducible refine (crash_calls _ qc uc sc fc _ A3 c3 keep HD9.out (HK.out.below (bel_step HBk.out HK9.out)) (reads_off HK.out (own_fromA HO9.out HBk.out.size))).mono ?_); rintro e wA ⟨rfl, hdA, hfA⟩; rw [← HCC.out] at hdA; have HDA := Aside0.mk hdA; have HKA := Aside0.mk (HK9.out.trans (hfA.below _ HK9.out.size (fun b hb => HO9.out b hb))); clear hdA hfA)) | (go_at_call 37; go_must ((with_reducible refine (HRV.out _ qc uc sc fc HDA.out).mono ?_); rintro e wB ⟨rfl, hdB, hfB⟩; have HDB := Aside0.mk hdB; have HKB := Aside0.mk (HKA.out.trans (hfB.below _ HKA.out.size (fun b hb => HO9.out b hb))); clear hdB hfB)) | (go_at_call 46; go_must ((with_reducible refine (words_calls _ qc uc sc fc _ HDB.out HL2R.out).mono ?_); rintro e wC ⟨gC, cC, rfl, hRC, hgC, hbC⟩; rw [HN2.out] at hRC; have HKC := Aside0.mk (bel_step HKB.out hbC); have hcvn := conv_n (c := cC) (at_wasR hRC HNL.out); have hcvw := conv_n (c := c5) (HC5.out.below HKC.out); have hcvq := conv_n (c := c8) (HCW.out.below HKC.out); have hcxC := bel_cell HKC.out HCX.out; have HDC := Aside0.mk (HDk.out.move HKC.out); clear hRC hgC hbC)) | (go_at_call 115; go_must ((with_reducible refine (HDO.out _ HKC.out HDC.out).mono ?_); rintro e wE ⟨rfl, hdE, hfE⟩; have HDE := Aside0.mk hdE; have HFE := Aside0.mk ((HFk.out.then_below HKC.out).trans' hfE); clear hdE hfE)))
                    all_goals
                      refine ⟨⟨k + 1, by omega, by go_num, ⟨?_⟩, HFE⟩, by simp [intOf]; omega⟩
                      rw [HTK.out]
                      exact HDE.out
                  | wr a n => exact hst.elim
                  | fe => exact hst.elim
                | fe r =>
                  cases m with
                  | fe =>
                    obtain rfl : r = p := hst
                    have HDO := Aside0.mk (fun (W : World) (hb : Below wr.heap.size wr W) (hh : HasD W r v s f (D.steps (ms.take k))) => stepW_fe W r v s f _ hh)
                    simp only [encW] at HCX
                    clear hok hlq
                    go_wp2_with (first | (go_at_call 29; ((with_reducible refine (HCP.out _ HDk.out).mono ?_); rintro e w9 ⟨qc, uc, sc, fc, rfl, hd9, hq9, ho9, hb9⟩; have HD9 := Aside0.mk hd9; have HO9 := Aside0.mk ho9; have HK9 := Aside0.mk hb9; clear hd9 hq9 ho9 hb9)) | (go_at_call 30; go_must ((with_reducible refine (crash_calls _ qc uc sc fc _ A3 c3 keep HD9.out (HK.out.below (bel_step HBk.out HK9.out)) (reads_off HK.out (own_fromA HO9.out HBk.out.size))).mono ?_); rintro e wA ⟨rfl, hdA, hfA⟩; rw [← HCC.out] at hdA; have HDA := Aside0.mk hdA; have HKA := Aside0.mk (HK9.out.trans (hfA.below _ HK9.out.size (fun b hb => HO9.out b hb))); clear hdA hfA)) | (go_at_call 37; go_must ((with_reducible refine (HRV.out _ qc uc sc fc HDA.out).mono ?_); rintro e wB ⟨rfl, hdB, hfB⟩; have HDB := Aside0.mk hdB; have HKB := Aside0.mk (HKA.out.trans (hfB.below _ HKA.out.size (fun b hb => HO9.out b hb))); clear hdB hfB)) | (go_at_call 46; go_must ((with_reducible refine (words_calls _ qc uc sc fc _ HDB.out HL2R.out).mono ?_); rintro e wC ⟨gC, cC, rfl, hRC, hgC, hbC⟩; rw [HN2.out] at hRC; have HKC := Aside0.mk (bel_step HKB.out hbC); have hcvn := conv_n (c := cC) (at_wasR hRC HNL.out); have hcvw := conv_n (c := c5) (HC5.out.below HKC.out); have hcvq := conv_n (c := c8) (HCW.out.below HKC.out); have hcxC := bel_cell HKC.out HCX.out; have HDC := Aside0.mk (HDk.out.move HKC.out); clear hRC hgC hbC)) | (go_at_call 24; go_must ((with_reducible refine (HDO.out _ HKC.out HDC.out).mono ?_); rintro e wE ⟨rfl, hdE, hfE⟩; have HDE := Aside0.mk hdE; have HFE := Aside0.mk ((HFk.out.then_below HKC.out).trans' hfE); clear hdE hfE)))
                    all_goals
                      refine ⟨⟨k + 1, by omega, by go_num, ⟨?_⟩, HFE⟩, by simp [intOf]; omega⟩
                      rw [HTK.out]
                      exact HDE.out
                  | wr a n => exact hst.elim
                  | fl a n => exact hst.elim
              · obtain rfl : k = xs.length := by omega
                have HTX := Aside0.mk (show ms.take (xs.length + 1) = ms.take xs.length by rw [List.take_of_length_le (by have := HXL.out; omega), List.take_of_length_le (by have := HXL.out; omega)])
                go_wp2_with (first | (go_at_call 29; ((with_reducible refine (HCP.out _ HDk.out).mono ?_); rintro e w9 ⟨qc, uc, sc, fc, rfl, hd9, hq9, ho9, hb9⟩; have HD9 := Aside0.mk hd9; have HO9 := Aside0.mk ho9; have HK9 := Aside0.mk hb9; clear hd9 hq9 ho9 hb9)) | (go_at_call 30; go_must ((with_reducible refine (crash_calls _ qc uc sc fc _ A3 c3 keep HD9.out (HK.out.below (bel_step HBk.out HK9.out)) (reads_off HK.out (own_fromA HO9.out HBk.out.size))).mono ?_); rintro e wA ⟨rfl, hdA, hfA⟩; rw [← HCC.out] at hdA; have HDA := Aside0.mk hdA; have HKA := Aside0.mk (HK9.out.trans (hfA.below _ HK9.out.size (fun b hb => HO9.out b hb))); clear hdA hfA)) | (go_at_call 37; go_must ((with_reducible refine (HRV.out _ qc uc sc fc HDA.out).mono ?_); rintro e wB ⟨rfl, hdB, hfB⟩; have HDB := Aside0.mk hdB; have HKB := Aside0.mk (HKA.out.trans (hfB.below _ HKA.out.size (fun b hb => HO9.out b hb))); clear hdB hfB)) | (go_at_call 46; go_must ((with_reducible refine (words_calls _ qc uc sc fc _ HDB.out HL2R.out).mono ?_); rintro e wC ⟨gC, cC, rfl, hRC, hgC, hbC⟩; rw [HN2.out] at hRC; have HKC := Aside0.mk (bel_step HKB.out hbC); have hcvn := conv_n (c := cC) (at_wasR hRC HNL.out); have hcvw := conv_n (c := c5) (HC5.out.below HKC.out); have hcvq := conv_n (c := c8) (HCW.out.below HKC.out); have HDC := Aside0.mk (HDk.out.move HKC.out); clear hRC hgC hbC)))
                all_goals
                  refine ⟨⟨xs.length + 1, by omega, by go_num, ⟨?_⟩, ⟨HFk.out.then_below HKC.out⟩⟩, by simp [intOf]⟩
                  rw [HTX.out]
                  exact HDC.out
            · by_cases hlt : k < xs.length
              · obtain ⟨x, hx⟩ : ∃ x, xs[k]? = some x := ⟨_, List.getElem?_eq_getElem hlt⟩
                obtain ⟨m, hm, hst1⟩ := HAL.out.get hx
                have HFW := Aside0.mk (HF7r.out.trans' HFk.out)
                have hst := hst1.move HFW.out HTO.out
                have HCX := Aside0.mk (HFW.out.cell (HCE.out k x hx) (HTO.out _ HG7.out))
                have HTK := Aside0.mk (take_steps (d := D) hm)
                have hok := HOK.out m (List.mem_of_getElem? hm)
                have hlq := (HL7.out.fr HFW.out HQ2.out).cells.1
                clear hst1 hm hx
                cases x with
                | wr bd ba bx =>
                  cases m with
                  | wr a y =>
                    have HDO := Aside0.mk (fun (W : World) (hb : Below wr.heap.size wr W) (hh : HasD W p v s f (D.steps (ms.take k))) => stepW_wr W q p v s f _ _ bd ba bx a y hh (bel_cell hb hlq) (hst.move (S := fun _ => False) (Fr.of_below hb _) (fun _ _ h => h)) hok)
                    simp only [encW] at HCX
                    clear hst hok hlq
                    go_wp2_with (first | (go_at_call 29; ((with_reducible refine (HCP.out _ HDk.out).mono ?_); rintro e w9 ⟨qc, uc, sc, fc, rfl, hd9, hq9, ho9, hb9⟩; have HD9 := Aside0.mk hd9; have HO9 := Aside0.mk ho9; have HK9 := Aside0.mk hb9; clear hd9 hq9 ho9 hb9)) | (go_at_call 30; go_must ((with_reducible refine (crash_calls _ qc uc sc fc _ A3 c3 keep HD9.out (HK.out.below (bel_step HBk.out HK9.out)) (reads_off HK.out (own_fromA HO9.out HBk.out.size))).mono ?_); rintro e wA ⟨rfl, hdA, hfA⟩; rw [← HCC.out] at hdA; have HDA := Aside0.mk hdA; have HKA := Aside0.mk (HK9.out.trans (hfA.below _ HK9.out.size (fun b hb => HO9.out b hb))); clear hdA hfA)) | (go_at_call 37; go_must ((with_reducible refine (HRV.out _ qc uc sc fc HDA.out).mono ?_); rintro e wB ⟨rfl, hdB, hfB⟩; have HDB := Aside0.mk hdB; have HKB := Aside0.mk (HKA.out.trans (hfB.below _ HKA.out.size (fun b hb => HO9.out b hb))); clear hdB hfB)) | (go_at_call 46; go_must ((with_reducible refine (words_calls _ qc uc sc fc _ HDB.out HL2R.out).mono ?_); rintro e wC ⟨gC, cC, rfl, hRC, hgC, hbC⟩; rw [HN2.out] at hRC; have HKC := Aside0.mk (bel_step HKB.out hbC); have hcvn := conv_n (c := cC) (at_wasR hRC HNL.out); have hcvw := conv_n (c := c5) (HC5.out.below HKC.out); have hcvq := conv_n (c := c8) (HCW.out.below HKC.out); have hcxC := bel_cell HKC.out HCX.out; have HDC := Aside0.mk (HDk.out.move HKC.out); clear hRC hgC hbC)) | (go_at_call 114; go_must ((with_reducible refine (HDO.out _ HKC.out HDC.out).mono ?_); rintro e wE ⟨rfl, hdE, hfE⟩; have HDE := Aside0.mk hdE; have HFE := Aside0.mk ((HFk.out.then_below HKC.out).trans' hfE); clear hdE hfE)))
                    all_goals
                      refine ⟨⟨k + 1, by omega, by go_num, ⟨?_⟩, HFE⟩, by simp [intOf]; omega⟩
                      rw [HTK.out]
                      exact HDE.out
                  | fl a n => exact hst.elim
                  | fe => exact hst.elim
                | fl bd ba bn =>
                  cases m with
                  | fl a n =>
                    have HDO := Aside0.mk (fun (W : World) (hb : Below wr.heap.size wr W) (hh : HasD W p v s f (D.steps (ms.take k))) => stepW_fl W q p v s f _ _ bd ba bn a n hh (bel_cell hb hlq) (hst.move (S := fun _ => False) (Fr.of_below hb _) (fun _ _ h => h)))
                    simp only [encW] at HCX
                    clear hst hok hlq
                    go_wp2_with (first | (go_at_call 29; ((with_reducible refine (HCP.out _ HDk.out).mono ?_); rintro e w9 ⟨qc, uc, sc, fc, rfl, hd9, hq9, ho9, hb9⟩; have HD9 := Aside0.mk hd9; have HO9 := Aside0.mk ho9; have HK9 := Aside0.mk hb9; clear hd9 hq9 ho9 hb9)) | (go_at_call 30; go_must ((with_reducible refine (crash_calls _ qc uc sc fc _ A3 c3 keep HD9.out (HK.out.below (bel_step HBk.out HK9.out)) (reads_off HK.out (own_fromA HO9.out HBk.out.size))).mono ?_); rintro e wA ⟨rfl, hdA, hfA⟩; rw [← HCC.out] at hdA; have HDA := Aside0.mk hdA; have HKA := Aside0.mk (HK9.out.trans (hfA.below _ HK9.out.size (fun b hb => HO9.out b hb))); clear hdA hfA)) | (go_at_call 37; go_must ((with_reducible refine (HRV.out _ qc uc sc fc HDA.out).mono ?_); rintro e wB ⟨rfl, hdB, hfB⟩; have HDB := Aside0.mk hdB; have HKB := Aside0.mk (HKA.out.trans (hfB.below _ HKA.out.size (fun b hb => HO9.out b hb))); clear hdB hfB)) | (go_at_call 46; go_must ((with_reducible refine (words_calls _ qc uc sc fc _ HDB.out HL2R.out).mono ?_); rintro e wC ⟨gC, cC, rfl, hRC, hgC, hbC⟩; rw [HN2.out] at hRC; have HKC := Aside0.mk (bel_step HKB.out hbC); have hcvn := conv_n (c := cC) (at_wasR hRC HNL.out); have hcvw := conv_n (c := c5) (HC5.out.below HKC.out); have hcvq := conv_n (c := c8) (HCW.out.below HKC.out); have hcxC := bel_cell HKC.out HCX.out; have HDC := Aside0.mk (HDk.out.move HKC.out); clear hRC hgC hbC)) | (go_at_call 115; go_must ((with_reducible refine (HDO.out _ HKC.out HDC.out).mono ?_); rintro e wE ⟨rfl, hdE, hfE⟩; have HDE := Aside0.mk hdE; have HFE := Aside0.mk ((HFk.out.then_below HKC.out).trans' hfE); clear hdE hfE)))
                    all_goals
                      refine ⟨⟨k + 1, by omega, by go_num, ⟨?_⟩, HFE⟩, by simp [intOf]; omega⟩
                      rw [HTK.out]
                      exact HDE.out
                  | wr a n => exact hst.elim
                  | fe => exact hst.elim
                | fe r =>
                  cases m with
                  | fe =>
                    obtain rfl : r = p := hst
                    have HDO := Aside0.mk (fun (W : World) (hb : Below wr.heap.size wr W) (hh : HasD W r v s f (D.steps (ms.take k))) => stepW_fe W r v s f _ hh)
                    simp only [encW] at HCX
                    clear hok hlq
                    go_wp2_with (first | (go_at_call 29; ((with_reducible refine (HCP.out _ HDk.out).mono ?_); rintro e w9 ⟨qc, uc, sc, fc, rfl, hd9, hq9, ho9, hb9⟩; have HD9 := Aside0.mk hd9; have HO9 := Aside0.mk ho9; have HK9 := Aside0.mk hb9; clear hd9 hq9 ho9 hb9)) | (go_at_call 30; go_must ((with_reducible refine (crash_calls _ qc uc sc fc _ A3 c3 keep HD9.out (HK.out.below (bel_step HBk.out HK9.out)) (reads_off HK.out (own_fromA HO9.out HBk.out.size))).mono ?_); rintro e wA ⟨rfl, hdA, hfA⟩; rw [← HCC.out] at hdA; have HDA := Aside0.mk hdA; have HKA := Aside0.mk (HK9.out.trans (hfA.below _ HK9.out.size (fun b hb => HO9.out b hb))); clear hdA hfA)) | (go_at_call 37; go_must ((with_reducible refine (HRV.out _ qc uc sc fc HDA.out).mono ?_); rintro e wB ⟨rfl, hdB, hfB⟩; have HDB := Aside0.mk hdB; have HKB := Aside0.mk (HKA.out.trans (hfB.below _ HKA.out.size (fun b hb => HO9.out b hb))); clear hdB hfB)) | (go_at_call 46; go_must ((with_reducible refine (words_calls _ qc uc sc fc _ HDB.out HL2R.out).mono ?_); rintro e wC ⟨gC, cC, rfl, hRC, hgC, hbC⟩; rw [HN2.out] at hRC; have HKC := Aside0.mk (bel_step HKB.out hbC); have hcvn := conv_n (c := cC) (at_wasR hRC HNL.out); have hcvw := conv_n (c := c5) (HC5.out.below HKC.out); have hcvq := conv_n (c := c8) (HCW.out.below HKC.out); have hcxC := bel_cell HKC.out HCX.out; have HDC := Aside0.mk (HDk.out.move HKC.out); clear hRC hgC hbC)) | (go_at_call 24; go_must ((with_reducible refine (HDO.out _ HKC.out HDC.out).mono ?_); rintro e wE ⟨rfl, hdE, hfE⟩; have HDE := Aside0.mk hdE; have HFE := Aside0.mk ((HFk.out.then_below HKC.out).trans' hfE); clear hdE hfE)))
                    all_goals
                      refine ⟨⟨k + 1, by omega, by go_num, ⟨?_⟩, HFE⟩, by simp [intOf]; omega⟩
                      rw [HTK.out]
                      exact HDE.out
                  | wr a n => exact hst.elim
                  | fl a n => exact hst.elim
              · obtain rfl : k = xs.length := by omega
                have HTX := Aside0.mk (show ms.take (xs.length + 1) = ms.take xs.length by rw [List.take_of_length_le (by have := HXL.out; omega), List.take_of_length_le (by have := HXL.out; omega)])
                go_wp2_with (first | (go_at_call 29; ((with_reducible refine (HCP.out _ HDk.out).mono ?_); rintro e w9 ⟨qc, uc, sc, fc, rfl, hd9, hq9, ho9, hb9⟩; have HD9 := Aside0.mk hd9; have HO9 := Aside0.mk ho9; have HK9 := Aside0.mk hb9; clear hd9 hq9 ho9 hb9)) | (go_at_call 30; go_must ((with_reducible refine (crash_calls _ qc uc sc fc _ A3 c3 keep HD9.out (HK.out.below (bel_step HBk.out HK9.out)) (reads_off HK.out (own_fromA HO9.out HBk.out.size))).mono ?_); rintro e wA ⟨rfl, hdA, hfA⟩; rw [← HCC.out] at hdA; have HDA := Aside0.mk hdA; have HKA := Aside0.mk (HK9.out.trans (hfA.below _ HK9.out.size (fun b hb => HO9.out b hb))); clear hdA hfA)) | (go_at_call 37; go_must ((with_reducible refine (HRV.out _ qc uc sc fc HDA.out).mono ?_); rintro e wB ⟨rfl, hdB, hfB⟩; have HDB := Aside0.mk hdB; have HKB := Aside0.mk (HKA.out.trans (hfB.below _ HKA.out.size (fun b hb => HO9.out b hb))); clear hdB hfB)) | (go_at_call 46; go_must ((with_reducible refine (words_calls _ qc uc sc fc _ HDB.out HL2R.out).mono ?_); rintro e wC ⟨gC, cC, rfl, hRC, hgC, hbC⟩; rw [HN2.out] at hRC; have HKC := Aside0.mk (bel_step HKB.out hbC); have hcvn := conv_n (c := cC) (at_wasR hRC HNL.out); have hcvw := conv_n (c := c5) (HC5.out.below HKC.out); have hcvq := conv_n (c := c8) (HCW.out.below HKC.out); have HDC := Aside0.mk (HDk.out.move HKC.out); clear hRC hgC hbC)))
                all_goals
                  refine ⟨⟨xs.length + 1, by omega, by go_num, ⟨?_⟩, ⟨HFk.out.then_below HKC.out⟩⟩, by simp [intOf]⟩
                  rw [HTX.out]
                  exact HDC.out
        · obtain rfl : k = xs.length + 1 := by omega
          go_wp2_with (go_at_call 36; ((with_reducible refine (wal_alive _).mono ?_); rintro e w8 ⟨rfl, hb⟩; have HB8 := Aside0.mk (bel_step HBk.out hb); clear hb))
          go_ret
          exact ⟨rfl, HB8.out⟩
theorem walAtomic_walk (A1 : Option Addr) (c1 : Nat) (first : List SetT) (A2 : Option Addr) (c2 : Nat) (sets : List SetT) (A3 : Option Addr) (c3 : Nat) (keep : List Int) (w : World) (hs1 : SetK.C w A1 first.length first) (hw1 : ∀ s ∈ first, WfSt s) (hy1 : first.length * 16 ≤ 140737488351232) (hs2 : SetK.C w A2 sets.length sets) (hw2 : ∀ s ∈ sets, WfSt s) (hy2 : sets.length * 16 ≤ 140737488351232) (hk : ReadsInt w .i64 A3 keep.length keep) : Calls Try.prog 13 #[.slice A1 first.length c1, .slice A2 sets.length c2, .slice A3 keep.length c3] w fun e w' => e = .returned (.bool true) ∧ Below w.heap.size w w' := by
  by_cases h : 20 < first.length + sets.length ∨ 100 < keep.length
  · exact watomic_long A1 A2 A3 c1 c2 c3 first sets keep w (by have := hk.2.1; omega) (by omega) (by omega) h
  · obtain ⟨r, D, nx, W0, h1, _, hc, hp, hcm⟩ := at_first first hw1
    by_cases he : errW 20 2 9 nx sets = 0
    · exact watomic_good A1 A2 A3 c1 c2 c3 first sets keep w hs1 hw1 hs2 hw2 hk (by omega) (by omega) hc hp h1 hcm he
    · exact watomic_bad A1 A2 A3 c1 c2 c3 first sets keep w hs1 hw1 hs2 hw2 hk (by omega) (by omega) hc hcm he
end Go.Proofs.Ytbfogcckbhkciaa.Hand
