/- The walk of a law of layer 4 (awWNothing), over the contracts of the log. -/
import Derived.Test.YtbfogcckbhkciaaHandZ7
namespace Go.Proofs.Ytbfogcckbhkciaa.Hand
open Go.RowKit Go.Maps Go.Proofs.YtbfogcckbhkciaaW.PrintWords Go.Proofs.YtbfogcckbhkciaaW.PrintLast
set_option linter.unusedVariables false
set_option linter.unusedSimpArgs false
def wn0 : Dev := Dev.of (List.replicate 160 0)
theorem wn0_cln : Cln wn0 20 (fun _ => zeros8) := zerosW_cln 20
theorem wn0_rec : recD wn0 2 9 = (0, []) := zerosW_rec (n := 20) (by decide) (by decide)
def wnS : List SetT := [(15, 3)]
theorem wnS_wf : ∀ s ∈ wnS, WfSt s := by simp [wnS, WfSt]
theorem wnS_err : errW 20 2 9 1 wnS = 0 := by decide
def wn1 : Dev := wn0.steps (walM 2 1 wnS)
theorem wn1_cln : Cln wn1 20 (setW (recW 2 1 wnS (fun _ => zeros8)) wnS) := (wal_rec wn0_cln (by decide) (by decide) (by decide) wnS_err wnS_wf (by decide)).2
theorem wn_lit (w : World) : SetK.C (w.alloc (.cells #[.int .i64 15, .int .u64 3] 78)) (some ⟨w.heap.size, 0, none⟩) 1 wnS := by
  refine ⟨rfl, by decide, fun _ => ⟨_, rfl, fun j x hx => ?_⟩⟩
  obtain rfl : j = 0 := by
    have := (List.getElem?_eq_some_iff.1 hx).1
    simpa [wnS] using this
  obtain rfl : x = (15, 3) := by simpa [wnS] using hx.symm
  refine ⟨encSt (15, 3), rfl, rfl, fun i u hu => ?_⟩
  rw [add_plain]
  refine blk_cell (heap_alloc_new w _) ?_
  simpa [encSt] using hu
section
variable {w : World} {p : Nat} {v : Value} {s f : Nat}
theorem wn_open (h : HasD w p v s f wn0) : Calls Try.prog 41 #[.pointer (some ⟨p, 0, none⟩), .int .i64 2, .int .i64 9] w fun e w' => ∃ (q : Nat), e = .returned (.tuple #[.pointer (some ⟨q, 0, none⟩), .int .i64 0]) ∧ HasL w' q p 2 9 1 ∧ w.heap.size ≤ q ∧ Below w.heap.size w w' := by
  have hl : wn0.B.length / 8 = 20 := by rw [wn0_cln.len]
  have := open4_good w p v s f wn0 2 9 h (by decide) (by rw [hl]; decide)
  rw [wn0_rec] at this
  exact this
theorem wn_commit {q : Nat} (h : HasD w p v s f wn0) (hl : HasL w q p 2 9 1) (hq : ¬ OwnD v s f q) {g : Nat} (hs : SetK.C w (some ⟨g, 0, none⟩) 1 wnS) :
    Calls Try.prog 42 #[.pointer (some ⟨q, 0, none⟩), .slice (some ⟨g, 0, none⟩) 1 1] w fun e w' => e = .returned (.int .i64 0) ∧ HasD w' p v s f wn1 ∧ HasL w' q p 2 9 2 ∧ Fr (fun b => OwnD v s f b ∨ b = q) w w' := by
  have h8 : wn0.B.length / 8 = 20 := by rw [wn0_cln.len]
  exact commit_good w q p v s f wn0 2 9 1 (some ⟨g, 0, none⟩) 1 wnS h hl hq (by decide) (by rw [h8]; decide) hs wnS_wf (by rw [h8]; exact wnS_err)
/-- A commit of any sets on a device of twenty words. -/
theorem wn_more {q nx : Nat} {d : Dev} (h8 : d.B.length / 8 = 20) (h : HasD w p v s f d) (hl : HasL w q p 2 9 nx) (hq : ¬ OwnD v s f q) {A : Option Addr} {c : Nat} {sets : List SetT} (hs : SetK.C w A sets.length sets) (hw : ∀ s ∈ sets, WfSt s) (he : errW 20 2 9 nx sets = 0) :
    Calls Try.prog 42 #[.pointer (some ⟨q, 0, none⟩), .slice A sets.length c] w (fun e w' => e = .returned (.int .i64 0) ∧ HasD w' p v s f (d.steps (walM 2 nx sets)) ∧ HasL w' q p 2 9 (nx + 1) ∧ Fr (fun b => OwnD v s f b ∨ b = q) w w') :=
  commit_good w q p v s f d 2 9 nx A c sets h hl hq (by decide) (by rw [h8]; decide) hs hw (by rw [h8]; exact he)
theorem wn_less {q nx : Nat} {d : Dev} (h8 : d.B.length / 8 = 20) (h : HasD w p v s f d) (hl : HasL w q p 2 9 nx) {A : Option Addr} {c : Nat} {sets : List SetT} (hs : SetK.C w A sets.length sets) (he : errW 20 2 9 nx sets ≠ 0) :
    Calls Try.prog 42 #[.pointer (some ⟨q, 0, none⟩), .slice A sets.length c] w (fun e w' => e = .returned (.int .i64 (errW 20 2 9 nx sets)) ∧ Below w.heap.size w w') := by
  have := commit_bad w q p v s f d 2 9 nx A c sets h hl (by decide) (by rw [h8]; decide) hs (by rw [h8]; exact he)
  rw [h8] at this
  exact this
end
set_option maxRecDepth 100000 in
theorem wnothing_long (A : Option Addr) (c : Nat) (sets : List SetT) (w : World) (hs : SetK.C w A sets.length sets) (h : 50 < sets.length) : Calls Try.prog 11 #[.slice A sets.length c] w fun e w' => e = .returned (.bool true) ∧ Below w.heap.size w w' := by
  have HN := Aside0.mk (show Calls Try.prog 27 #[.int .i64 20] w (NewDev w (List.replicate 160 0)) from new_calls w 20 (by omega))
  have hl := hs.2.1
  clear hs
  go_enter Try.func11, Try.ntmps11
  go_wp2_with (first | (go_at_call 27; ((with_reducible refine HN.out.mono ?_); rintro e w1 ⟨p, v, s, f, rfl, hd1, hp1, hv1, hb1⟩; have HB1 := Aside0.mk hb1; clear hd1 hp1 hv1 hb1)) | (go_at_call 36; ((with_reducible refine (wal_alive _).mono ?_); rintro e w3 ⟨rfl, hb⟩; have HB3 := Aside0.mk (bel_step HB1.out hb); clear hb)))
  go_ret
  exact ⟨rfl, HB3.out⟩
def pmB (sets : List SetT) (t : Nat) : Bool := decide (0 < sets.length) && (sets.take t).all fun s => mayB 20 2 9 s.1
theorem pmB_succ {sets : List SetT} {t : Nat} {x : SetT} (h : sets[t]? = some x) : pmB sets (t + 1) = (pmB sets t && mayB 20 2 9 x.1) := by
  rw [pmB, pmB, List.take_add_one, h, Option.toList_some, List.all_append]
  simp [Bool.and_assoc]
theorem pmB_all {sets : List SetT} : pmB sets sets.length = true ↔ 0 < sets.length ∧ ∀ s ∈ sets, mayB 20 2 9 s.1 = true := by
  rw [pmB, List.take_of_length_le (Nat.le_refl _), Bool.and_eq_true, decide_eq_true_eq, List.all_eq_true]
/-- What a further commit comes to. -/
theorem wn_cases (sets : List SetT) (hw : ∀ s ∈ sets, WfSt s) : ∃ (r : Int) (D2 : Dev) (n2 : Nat), ((r = 0 ∧ n2 = 3 ∧ pmB sets sets.length = true ∧ sets.length ≤ 4) ∨ (r = 1 ∧ n2 = 2 ∧ D2 = wn1 ∧ pmB sets sets.length = false) ∨ (r = 40 ∧ n2 = 2 ∧ D2 = wn1 ∧ pmB sets sets.length = true ∧ 4 < sets.length)) ∧
    ∀ (W : World) (p : Nat) (v : Value) (s f q : Nat) (A : Option Addr) (c : Nat), HasD W p v s f wn1 → HasL W q p 2 9 2 → ¬ OwnD v s f q → SetK.C W A sets.length sets →
      Calls Try.prog 42 #[.pointer (some ⟨q, 0, none⟩), .slice A sets.length c] W (fun e w' => e = .returned (.int .i64 r) ∧ HasD w' p v s f D2 ∧ HasL w' q p 2 9 n2 ∧ Fr (fun b => OwnD v s f b ∨ b = q) W w') := by
  have h8 : wn1.B.length / 8 = 20 := by rw [wn1_cln.len]
  by_cases he : errW 20 2 9 2 sets = 0
  · obtain ⟨h1, h2, h3, _⟩ := errW_ok he
    exact ⟨0, _, 3, .inl ⟨rfl, rfl, pmB_all.2 ⟨h2, h1⟩, h3⟩, fun W p v s f q A c hd hl hq hs => wn_more h8 hd hl hq hs hw he⟩
  · refine ⟨errW 20 2 9 2 sets, wn1, 2, .inr ?_, fun W p v s f q A c hd hl hq hs => (wn_less h8 hd hl hs he).mono (fun e w' h => ⟨h.1, hd.move h.2, hl.below h.2, Fr.of_below h.2 _⟩)⟩
    by_cases h1 : (sets.all fun s => mayB 20 2 9 s.1) = false
    · refine .inl ⟨by rw [errW, if_pos h1], rfl, rfl, ?_⟩
      rw [pmB, List.take_of_length_le (Nat.le_refl _), h1, Bool.and_false]
    · by_cases h2 : sets = []
      · subst h2
        exact .inl ⟨by rw [errW, if_neg h1, if_pos rfl], rfl, rfl, rfl⟩
      · by_cases h3 : (9 - 1) / 2 < sets.length ∨ 4294967295 < 2
        · refine .inr ⟨by rw [errW, if_neg h1, if_neg h2, if_pos h3], rfl, rfl, ?_, by omega⟩
          rw [Bool.not_eq_false, List.all_eq_true] at h1
          exact pmB_all.2 ⟨List.length_pos_iff.2 h2, h1⟩
        · exact absurd (by rw [errW, if_neg h1, if_neg h2, if_neg h3]) he
set_option maxRecDepth 100000 in
set_option maxHeartbeats 4000000 in
theorem wnothing_good (A : Option Addr) (c : Nat) (sets : List SetT) (w : World) (hs : SetK.C w A sets.length sets) (hw : ∀ s ∈ sets, WfSt s) (h : sets.length ≤ 50) : Calls Try.prog 11 #[.slice A sets.length c] w fun e w' => e = .returned (.bool true) ∧ Below w.heap.size w w' := by
  have HN := Aside0.mk (show Calls Try.prog 27 #[.int .i64 20] w (NewDev w (List.replicate 160 0)) from new_calls w 20 (by omega))
  have HC := Aside0.mk hs
  obtain ⟨r, D2, n2, hcase, hcm⟩ := wn_cases sets hw
  have HCM := Aside0.mk hcm
  have HCS := Aside0.mk hcase
  have HOWN := Aside0.mk (fun (W : World) (hW : Below w.heap.size w W) => own4_calls W A c sets (Kd.C_below hs hW) (by omega))
  have hr9 : 0 ≤ r ∧ r ≤ 40 := by omega
  have hn9 : n2 ≤ 3 := by omega
  clear hs hw hcm hcase
  go_enter Try.func11, Try.ntmps11
  go_wp2_with (first | (go_at_call 27; ((with_reducible refine HN.out.mono ?_); rintro e w1 ⟨p, v, s, f, rfl, hd1, hp1, hv1, hb1⟩; have HD1 := Aside0.mk (show HasD w1 p v s f wn0 from hd1); have HV := Aside0.mk hv1; have HB1 := Aside0.mk hb1; clear hd1 hp1 hv1 hb1)) | (go_at_call 41; ((with_reducible refine (wn_open HD1.out).mono ?_); rintro e w2 ⟨q, rfl, hl, hq, hb⟩; have HL2 := Aside0.mk hl; have HQ2 := Aside0.mk (not_own_ge HD1.out hq); have HQW := Aside0.mk (Nat.le_trans HB1.out.size hq); have HD2 := Aside0.mk (HD1.out.move hb); have HB2 := Aside0.mk (bel_step HB1.out hb); clear hl hq hb)) | (go_at_call 42; ((with_reducible refine (wn_commit (HD2.out.move (below_alloc (Below.refl _ _) _)) (HL2.out.below (below_alloc (Below.refl _ _) _)) HQ2.out (wn_lit w2)).mono ?_); rintro e w4 ⟨rfl, hd, hl, hf⟩; have HD4 := Aside0.mk (hd.move (Below.refl w4.heap.size w4).drew); have HL4 := Aside0.mk (hl.below (Below.refl w4.heap.size w4).drew); have HB4 := Aside0.mk (((below_alloc HB2.out _).trans (hf.below _ (below_alloc HB2.out _).size (fun b hb => hb.elim (fun h => HV.out b h) (fun h => h ▸ HQW.out)))).drew); clear hd hl hf)))
  refine start_ (n := 7) (S := fun w' => True) (ds := []) #[false, false, false, false, false, false, false] (by kernel_rfl) rfl rfl trivial (fun hHeld => ?_)
  refine pure_ (i := 0) (N := some 52) (v := ?_) (a' := ?_) #[true, false, false, false, false, false, false] rfl rfl (by kernel_rfl) (fun _ _ _ h => h) (Or.inl ⟨by rfl, ?_⟩) ?_ ?_
  rotate_left
  · intro w'
    go_simp
    with_reducible rfl
  rotate_left
  · simp only [Act.put, List.setIfInBounds_toArray, List.set_cons_zero, List.set_cons_succ, i64_w, i32_w]
    rfl
  refine pure_ (i := 3) (N := some 55) (v := ?_) (a' := ?_) #[true, false, false, true, false, false, false] rfl rfl (by kernel_rfl) (fun _ _ _ h => h) (Or.inl ⟨by rfl, ?_⟩) ?_ ?_
  rotate_left
  · intro w'
    go_simp
    with_reducible rfl
  rotate_left
  · simp only [Act.put, List.setIfInBounds_toArray, List.set_cons_zero, List.set_cons_succ, i64_w, i32_w]
    rfl
  refine one_ (i := 1) (N := some 53) #[true, true, false, true, false, false, false] rfl rfl (by kernel_rfl) (by decide) (fun K hK => ?_)
  refine goes_ Try.func22 (by kernel_rfl) rfl #[.pointer (some ⟨p, 0, none⟩)] (by rfl) rfl rfl (by simp only [List.map_toArray, List.map_cons, List.map_nil]; rfl) ?_
  with_reducible refine (bytes_calls _ p v s f _ HD4.out).mono ?_
  rintro e w5 ⟨u5, rfl, hu5, hb5⟩
  refine ⟨_, rfl, ?_⟩
  obtain ⟨A5, c5, rfl, _, hR5⟩ := reads_own2 hu5
  have HR5 := Aside0.mk hR5
  have HD5 := Aside0.mk (HD4.out.move hb5)
  have HL5 := Aside0.mk (HL4.out.below hb5)
  have HB5 := Aside0.mk (bel_step HB4.out hb5)
  clear hu5 hb5 hR5
  refine hK.out _ _ trivial (fun hHeld => ?_)
  clear hK K
  refine norm_ (a' := ?_) ?_ ?_
  rotate_left
  · show Act.put _ (some 53) _ = _
    simp only [Act.put, List.setIfInBounds_toArray, List.set_cons_zero, List.set_cons_succ, i64_w, i32_w]
    rfl
  refine join_ (σ := Unit) 2 #[true, true, true, true, true, false, false] (fun _ => [(54, .string (strOfNums wn1.B)), (56, .int .i64 2)]) (fun _ w' => Below w.heap.size w w' ∧ HasD w' p v s f wn1 ∧ HasL w' q p 2 9 2) ?_ ?_
  rotate_left
  · intro hCont
    refine two_ (i := 2) (j := 4) (Ni := some 54) (Nj := some 56) #[true, true, true, true, false, false, false] #[true, true, false, true, true, false, false] rfl rfl rfl rfl (by kernel_rfl) (by decide) (by decide) (fun K hK => ?_) (fun K hK => ?_)
    · skip
      have hcv := conv_reads (c := c5) HR5.out
      refine value_ (w1 := ?_) (v := ?_) (by rfl) rfl ?_ ?_
      rotate_left 2
      · go_simp
        constructor
        · rfl
        · rfl
      clear hcv
      refine hK.out _ _ trivial (fun hHeld => ?_)
      clear hK K
      refine norm_ (a' := ?_) ?_ ?_
      rotate_left
      · show Act.put _ (some 54) _ = _
        simp only [Act.put, List.setIfInBounds_toArray, List.set_cons_zero, List.set_cons_succ, i64_w, i32_w]
        rfl
      refine one_ (i := 4) (N := some 56) #[true, true, true, true, true, false, false] rfl rfl (by kernel_rfl) (by decide) (fun K hK => ?_)
      refine goes_ Try.func44 (by kernel_rfl) rfl #[.pointer (some ⟨q, 0, none⟩)] (by rfl) rfl rfl (by simp only [List.map_toArray, List.map_cons, List.map_nil]; rfl) ?_
      with_reducible refine (seq4_calls w5 q p 2 9 2 HL5.out).mono ?_
      rintro e wS ⟨rfl, rfl⟩
      refine ⟨_, rfl, ?_⟩
      refine hK.out _ _ trivial (fun hHeld => ?_)
      clear hK K
      refine norm_ (a' := ?_) ?_ ?_
      rotate_left
      · show Act.put _ (some 56) _ = _
        simp only [Act.put, List.setIfInBounds_toArray, List.set_cons_zero, List.set_cons_succ, i64_w, i32_w]
        rfl
      exact norm_ (by first | (simp only [putAll, Act.put, List.setIfInBounds_toArray, List.set_cons_zero, List.set_cons_succ]; done) | (simp only [putAll, Act.put, List.setIfInBounds_toArray, List.set_cons_zero, List.set_cons_succ]; rfl)) (hCont () _ ⟨HB5.out, HD5.out, HL5.out⟩)
    · skip
      refine goes_ Try.func44 (by kernel_rfl) rfl #[.pointer (some ⟨q, 0, none⟩)] (by rfl) rfl rfl (by simp only [List.map_toArray, List.map_cons, List.map_nil]; rfl) ?_
      with_reducible refine (seq4_calls w5 q p 2 9 2 HL5.out).mono ?_
      rintro e wS ⟨rfl, rfl⟩
      refine ⟨_, rfl, ?_⟩
      refine hK.out _ _ trivial (fun hHeld => ?_)
      clear hK K
      refine norm_ (a' := ?_) ?_ ?_
      rotate_left
      · show Act.put _ (some 56) _ = _
        simp only [Act.put, List.setIfInBounds_toArray, List.set_cons_zero, List.set_cons_succ, i64_w, i32_w]
        rfl
      refine one_ (i := 2) (N := some 54) #[true, true, true, true, true, false, false] rfl rfl (by kernel_rfl) (by decide) (fun K hK => ?_)
      have hcv := conv_reads (c := c5) HR5.out
      refine value_ (w1 := ?_) (v := ?_) (by rfl) rfl ?_ ?_
      rotate_left 2
      · go_simp
        constructor
        · rfl
        · rfl
      clear hcv
      refine hK.out _ _ trivial (fun hHeld => ?_)
      clear hK K
      refine norm_ (a' := ?_) ?_ ?_
      rotate_left
      · show Act.put _ (some 54) _ = _
        simp only [Act.put, List.setIfInBounds_toArray, List.set_cons_zero, List.set_cons_succ, i64_w, i32_w]
        rfl
      exact norm_ (by first | (simp only [putAll, Act.put, List.setIfInBounds_toArray, List.set_cons_zero, List.set_cons_succ]; done) | (simp only [putAll, Act.put, List.setIfInBounds_toArray, List.set_cons_zero, List.set_cons_succ]; rfl)) (hCont () _ ⟨HB5.out, HD5.out, HL5.out⟩)
  rintro _ wJ ⟨hbJ, hdJ, hlJ⟩
  have HBJ := Aside0.mk hbJ
  have HDJ := Aside0.mk hdJ
  have HLJ := Aside0.mk hlJ
  clear hbJ hdJ hlJ
  have hHeld : True := trivial
  refine norm_ (a' := ?_) ?_ ?_
  rotate_left
  · simp only [putAll, Act.put, List.setIfInBounds_toArray, List.set_cons_zero, List.set_cons_succ]
    rfl
  refine pure_ (i := 5) (N := some 7) (v := ?_) (a' := ?_) #[true, true, true, true, true, true, false] rfl rfl (by kernel_rfl) (fun _ _ _ h => h) (Or.inl ⟨by rfl, ?_⟩) ?_ ?_
  rotate_left
  · intro w'
    go_simp
    with_reducible rfl
  rotate_left
  · simp only [Act.put, List.setIfInBounds_toArray, List.set_cons_zero, List.set_cons_succ, i64_w, i32_w]
    rfl
  refine pure_ (i := 6) (N := some 8) (v := ?_) (a' := ?_) #[true, true, true, true, true, true, true] rfl rfl (by kernel_rfl) (fun _ _ _ h => h) (Or.inl ⟨by rfl, ?_⟩) ?_ ?_
  rotate_left
  · intro w'
    go_simp
    with_reducible rfl
  rotate_left
  · simp only [Act.put, List.setIfInBounds_toArray, List.set_cons_zero, List.set_cons_succ, i64_w, i32_w]
    rfl
  refine done_ (by kernel_rfl) ?_
  go_wp2_with (first | (go_at_call 43; ((with_reducible refine (HOWN.out _ HBJ.out).mono ?_); rintro e w6 ⟨v6, rfl, hr6, hb6⟩; obtain ⟨A6, c6, rfl, _, hC6⟩ := flat_reads hr6; have HC6 := Aside0.mk (show SetK.C w6 A6 sets.length sets from hC6); have HD6 := Aside0.mk (HDJ.out.move hb6); have HL6 := Aside0.mk (HLJ.out.below hb6); have HB6 := Aside0.mk (bel_step HBJ.out hb6); clear hr6 hC6 hb6)) | (go_at_call 42; ((with_reducible refine (HCM.out w6 p v s f q A6 c6 HD6.out HL6.out HQ2.out HC6.out).mono ?_); rintro e w7 ⟨rfl, hd, hl, hf⟩; have HD7 := Aside0.mk hd; have HL7 := Aside0.mk hl; have HB7 := Aside0.mk (HB6.out.trans (hf.below _ HB6.out.size (fun b hb => hb.elim (fun h => HV.out b h) (fun h => h ▸ HQW.out)))); clear hd hl hf)))
  go_loopw [10, 66] (fun u i wr => ∃ t : Nat, t ≤ sets.length ∧ i = .int .i64 (t : Int) ∧ u = .bool (pmB sets t) ∧ Aside0 (Below w7.heap.size w7 wr)) (fun _ i _ => (sets.length - intOf i).toNat)
  case atStart => exact ⟨0, Nat.zero_le _, rfl, by simp [pmB], ⟨Below.refl _ _⟩⟩
  case round =>
    obtain ⟨t, ht, rfl, rfl, HB⟩ := hrel
    by_cases hlt : t < sets.length
    · obtain ⟨x, hx⟩ : ∃ x, sets[t]? = some x := ⟨_, List.getElem?_eq_getElem hlt⟩
      obtain ⟨bb, ob, hA, hcb⟩ := C_at (Kd.C_below HC.out (bel_step HB7.out HB.out)) (by decide) hx
      have HPS := Aside0.mk (pmB_succ hx)
      obtain ⟨x, y⟩ := x
      have b0 : wr.cell? ⟨bb, ob + t * 2, none⟩ = some (.int .i64 x) := hcb 0 (by decide)
      have b1 : wr.cell? ⟨bb, ob + t * 2 + 1, none⟩ = some (.int .u64 y) := hcb 1 (by decide)
      subst hA
      have HBA := Aside0.mk (below_alloc HB.out (.cells #[.int .i64 x, .int .u64 y] 76))
      have HM := Aside0.mk (show mayB 20 2 9 x = (decide (0 ≤ x) && decide (x < 20) && (decide (x < 2) || decide (10 < x))) by
        simp only [mayB]
        by_cases h1 : 0 ≤ x <;> by_cases h2 : x < 20 <;> by_cases h3 : x < 2 <;> by_cases h4 : 10 < x <;> simp [h1, h2, h3, h4] <;> omega)
      clear hcb hx
      cases hp : pmB sets t
      · rw [hp] at HPS
        go_wp2
        go_roundw
        case rel => exact ⟨t + 1, by omega, by go_num, by rw [HPS.out]; rfl, HBA⟩
        case measure => simp [intOf]; omega
      · rw [hp] at HPS
        rcases (show x < 0 ∨ (0 ≤ x ∧ 20 ≤ x) ∨ (0 ≤ x ∧ x < 20 ∧ x < 2) ∨ (0 ≤ x ∧ x < 20 ∧ 2 ≤ x ∧ x ≤ 10) ∨ (0 ≤ x ∧ x < 20 ∧ 2 ≤ x ∧ 10 < x) by omega) with z1 | ⟨z1, z2⟩ | ⟨z1, z2, z3⟩ | ⟨z1, z2, z3, z4⟩ | ⟨z1, z2, z3, z4⟩
        all_goals
          have HMV := Aside0.mk HM.out
        · rw [decide_eq_false (show ¬ 0 ≤ x by omega)] at HMV
          go_wp2
          go_roundw
          case rel => exact ⟨t + 1, by omega, by go_num, by rw [HPS.out, HMV.out]; rfl, HBA⟩
          case measure => simp [intOf]; omega
        · rw [decide_eq_true z1, decide_eq_false (show ¬ x < 20 by omega)] at HMV
          go_wp2
          go_roundw
          case rel => exact ⟨t + 1, by omega, by go_num, by rw [HPS.out, HMV.out]; rfl, HBA⟩
          case measure => simp [intOf]; omega
        · rw [decide_eq_true z1, decide_eq_true z2, decide_eq_true z3] at HMV
          go_wp2
          go_roundw
          case rel => exact ⟨t + 1, by omega, by go_num, by rw [HPS.out, HMV.out]; rfl, HBA⟩
          case measure => simp [intOf]; omega
        · rw [decide_eq_true z1, decide_eq_true z2, decide_eq_false (show ¬ x < 2 by omega), decide_eq_false (show ¬ 10 < x by omega)] at HMV
          go_wp2
          go_roundw
          case rel => exact ⟨t + 1, by omega, by go_num, by rw [HPS.out, HMV.out, decide_eq_false (show ¬ x < 2 by omega), decide_eq_false (show ¬ 10 < x by omega)]; rfl, HBA⟩
          case measure => simp [intOf]; omega
        · rw [decide_eq_true z1, decide_eq_true z2, decide_eq_false (show ¬ x < 2 by omega), decide_eq_true z4] at HMV
          go_wp2
          go_roundw
          case rel => exact ⟨t + 1, by omega, by go_num, by rw [HPS.out, HMV.out]; rfl, HBA⟩
          case measure => simp [intOf]; omega
    · obtain rfl : t = sets.length := by omega
      have HBE := Aside0.mk (bel_step HB7.out HB.out)
      have HDE := Aside0.mk (HD7.out.move HB.out)
      have HLE := Aside0.mk (HL7.out.below HB.out)
      rcases HCS.out with ⟨rfl, rfl, hp, h4⟩ | ⟨rfl, rfl, rfl, hp⟩ | ⟨rfl, rfl, rfl, hp, h4⟩
      all_goals
        rw [hp]
        clear hp
        go_wp2_with (first | (go_at_call 36; ((with_reducible refine (wal_alive _).mono ?_); rintro e w8 ⟨rfl, hb⟩; have HB8 := Aside0.mk (bel_step HBE.out hb); have HD8 := Aside0.mk (HDE.out.move hb); have HL8 := Aside0.mk (HLE.out.below hb); clear hb)) | (go_at_call 22; ((with_reducible refine (bytes_calls _ p v s f _ HD8.out).mono ?_); rintro e w9 ⟨u9, rfl, hu, hb⟩; have hcv := conv_own hu; have HB9 := Aside0.mk (bel_step HB8.out hb); have HL9 := Aside0.mk (HL8.out.below hb); clear hu hb)) | (go_at_call 45; (first | ((with_reducible refine (room4_calls _ q p 2 9 _ HL9.out (by decide) (by decide)).mono ?_); rintro e wA ⟨rfl, rfl⟩) | ((with_reducible refine (room4_calls _ q p 2 9 _ HL8.out (by decide) (by decide)).mono ?_); rintro e wA ⟨rfl, rfl⟩))) | (go_at_call 44; (first | ((with_reducible refine (seq4_calls _ q p 2 9 _ HL9.out).mono ?_); rintro e wA ⟨rfl, rfl⟩) | ((with_reducible refine (seq4_calls _ q p 2 9 _ HL8.out).mono ?_); rintro e wA ⟨rfl, rfl⟩))))
        go_ret
      · exact ⟨rfl, HB8.out⟩
      · exact ⟨rfl, HB9.out⟩
      · refine ⟨?_, HB9.out⟩
        simp
        omega
theorem walNothing_walk (A : Option Addr) (c : Nat) (sets : List SetT) (w : World) (hs : SetK.C w A sets.length sets) (hw : ∀ s ∈ sets, WfSt s) : Calls Try.prog 11 #[.slice A sets.length c] w fun e w' => e = .returned (.bool true) ∧ Below w.heap.size w w' := by
  by_cases h : 50 < sets.length
  · exact wnothing_long A c sets w hs h
  · exact wnothing_good A c sets w hs hw (by omega)
end Go.Proofs.Ytbfogcckbhkciaa.Hand
