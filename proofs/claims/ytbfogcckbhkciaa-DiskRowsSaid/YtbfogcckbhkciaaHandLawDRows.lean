/- DiskRows: the walk. -/
import Derived.Test.YtbfogcckbhkciaaHandLawDBoth
import Derived.Test.YtbfogcckbhkciaaHandPmOps
namespace Go.Proofs.Ytbfogcckbhkciaa.Hand
open Go.RowKit Go.Maps Go.Proofs.YtbfogcckbhkciaaW.PrintWords
set_option linter.unusedVariables false
set_option linter.unusedSimpArgs false
/-- Bytes, as they stand in a row of bytes. -/
structure BoP where
  A : Option Addr
  c : Nat
  l : List Int
def encBo (x : BoP) : List Value := [.slice x.A x.l.length x.c]
theorem encBo_len (x : BoP) : (encBo x).length = 1 := rfl
theorem encBo_one (x : BoP) : ∀ u ∈ encBo x, u.oneCell' = true := by
  intro u hu
  rw [List.mem_singleton.1 hu]
  rfl
def BoK : Kd BoP := flat encBo 1 encBo_len encBo_one
def WfBo (w : World) (x : BoP) : Prop := ReadsInt w .u8 x.A x.l.length x.l ∧ Bys x.l
theorem bo_cells {H : Type} {enc : TypeId × Value → H} {w : World} {spare : Nat → Bool} {held : Bool} {n : Nat} {cs : List Value} {y : DataW H × List MemPlace} (h : DataW.trod enc Try.prog w 0 spare held n 23 cs = some y) : ∃ x : BoP, cs = encBo x ∧ WfBo w x := by
  obtain ⟨A, len, cap, rfl⟩ : ∃ A len cap, cs = [.slice A len cap] := by
    rcases Go.Deep.open_slice Try.underlying23 h with ⟨hcs, _⟩ | ⟨a, l, c, m, n, D, Pl, hcs, _⟩
    · exact ⟨none, 0, 0, hcs⟩
    · exact ⟨some a, l, c, hcs⟩
  obtain ⟨l, rfl, hr, hb, _⟩ := open_u8s h
  exact ⟨⟨A, cap, l⟩, rfl, hr, hb⟩
theorem open_rows {H : Type} {enc : TypeId × Value → H} {w : World} {spare : Nat → Bool} {held : Bool} {A : Option Addr} {len cap : Nat} {d : DataW H} {ps : List MemPlace}
    (h : DataW.Trod enc Try.prog w 0 spare held 86 (.slice A len cap) d ps) : ∃ os : List BoP, len = os.length ∧ BoK.C w A os.length os ∧ ∀ o ∈ os, WfBo w o :=
  open_flat Try.underlying86 (by kernel_rfl) (fun n cs y h => bo_cells h) h
/-- A device behind so many savings; what was saved last. -/
def RowsR (nw : Nat) (W : Nat → List Int) (d : Dev) (n : Nat) (last : List Int) : Prop :=
  Cln d nw W ∧ ((n = 0 ∧ mkW (W 0) = (0, 0)) ∨ (0 < n ∧ (mkW (W 0)).1 = n ∧ ∃ rest, loadL d = last ++ rest ∧ (last ++ rest).length = 8 * ((nw - 1) / 2)))
theorem cln_crash {d : Dev} {n : Nat} {W : Nat → List Int} (h : Cln d n W) (hok : d.Ok) (keep : List Int) : Cln (d.crash keep) n W :=
  (Is.crash h hok keep).congr (fun _ _ => rfl) (fun _ => rfl) (fun _ => rfl)
theorem load_cln {d d' : Dev} {n : Nat} {W : Nat → List Int} (h : Cln d n W) (h' : Cln d' n W) (hn : 0 < n) (h0 : (mkW (W 0)).1 ≠ 0) : loadL d = loadL d' := by
  rw [Is.load h hn h0, Is.load h' hn h0]
theorem rows_full {nw : Nat} {W : Nat → List Int} {d : Dev} {n : Nat} {last : List Int} (h : RowsR nw W d n last) (hn : 0 < nw) (h1 : n ≤ 1000) (l : List Int) : FullD d l ↔ roomN nw < l.length := by
  obtain ⟨hc, hcase⟩ := h
  have hr : roomN nw = 8 * ((nw - 1) / 2) := by rw [roomN]; omega
  have hg : (mkW (W 0)).1 ≤ 1000 := by
    rcases hcase with ⟨_, h2⟩ | ⟨_, h2, _⟩
    · rw [h2]; decide
    · rw [h2]; omega
  rw [FullD, Is.room hc hn, Is.mark hc hn, hr]
  omega
theorem rows_crash {nw : Nat} {W : Nat → List Int} {d : Dev} {n : Nat} {last : List Int} (h : RowsR nw W d n last) (hn : 0 < nw) (hok : d.Ok) : RowsR nw W (d.crash []) n last := by
  obtain ⟨hc, hcase⟩ := h
  refine ⟨cln_crash hc hok [], ?_⟩
  rcases hcase with h2 | ⟨h2, h3, rest, h4, h5⟩
  · exact .inl h2
  · exact .inr ⟨h2, h3, rest, by rw [← load_cln hc (cln_crash hc hok []) hn (by omega), h4], h5⟩
theorem rows_save {nw : Nat} {W : Nat → List Int} {d : Dev} {n : Nat} {last l : List Int} (h : RowsR nw W d n last) (hn : 0 < nw) (hf : ¬ FullD d l) : RowsR nw (savedW nw l W) (d.save l) (n + 1) l := by
  obtain ⟨hc, hcase⟩ := h
  have hg : (mkW (W 0)).1 = n := by
    rcases hcase with ⟨h1, h2⟩ | ⟨_, h2, _⟩
    · rw [h2, h1]; rfl
    · exact h2
  have hm := saved_mark hc hn hf
  refine ⟨save_cln hc hn hf, .inr ⟨by omega, by rw [hm]; simp only; omega, ?_⟩⟩
  obtain ⟨rest, h1, h2⟩ := saved_load hc hn hf
  exact ⟨rest, h1, h2⟩
theorem rows_none {nw : Nat} {W : Nat → List Int} {d : Dev} {last : List Int} (h : RowsR nw W d 0 last) (hn : 0 < nw) : (dmark d).1 = 0 := by
  obtain ⟨hc, hcase⟩ := h
  rw [Is.mark hc hn]
  rcases hcase with ⟨_, h2⟩ | ⟨h2, _⟩
  · rw [h2]
  · omega
theorem rows_some {nw : Nat} {W : Nat → List Int} {d : Dev} {n : Nat} {last : List Int} (h : RowsR nw W d n last) (hn : 0 < nw) (h0 : 0 < n) : (dmark d).1 = n ∧ ∃ rest, loadL d = last ++ rest ∧ (last ++ rest).length = roomN nw := by
  obtain ⟨hc, hcase⟩ := h
  rw [Is.mark hc hn]
  rcases hcase with ⟨h2, _⟩ | ⟨_, h2, rest, h3, h4⟩
  · omega
  · exact ⟨h2, rest, h3, by rw [h4, roomN]; omega⟩
theorem rows_start (nw : Nat) : RowsR nw (fun _ => List.replicate 8 0) (Dev.of (List.replicate (8 * nw) 0)) 0 [] := ⟨zeros_cln nw, .inl ⟨rfl, mkW_zero⟩⟩
theorem rows_load {nw : Nat} {W : Nat → List Int} {d : Dev} {m rm : Nat} {last : List Int} (w : World) (p : Nat) (v : Value) (s f : Nat) (h : HasD w p v s f d) (hR : RowsR nw W d m last) (hn : 0 < nw) (h0 : 0 < m) (hrm : rm = roomN nw) :
    Calls Try.prog 51 #[.pointer (some ⟨p, 0, none⟩)] w fun e w' => ∃ A c, e = .returned (.tuple #[.slice A rm c, .int .i64 (m : Int), .int .i64 0]) ∧ last.length ≤ rm ∧ rm ≤ c ∧
      (convert 23 9 (.slice A last.length c)).run Try.prog w' = .ok (.string (strOfNums last)) w' ∧ Below w.heap.size w w' := by
  obtain ⟨h1, rest, h2, h3⟩ := rows_some hR hn h0
  refine (load_more w p v s f d h (by omega)).mono ?_
  rintro e w' ⟨A, c, rfl, hr, hc, _, hb⟩
  have h3' : (last ++ rest).length = rm := by rw [h3, hrm]
  have hll : (loadL d).length = rm := by rw [h2, h3']
  have hl : last.length ≤ rm := by rw [← h3', List.length_append]; omega
  rw [hll] at hr hc ⊢
  rw [h2] at hr
  rw [h1]
  refine ⟨A, c, rfl, hl, hc, ?_, hb⟩
  have hr' : ReadsInt w' .u8 A (last ++ rest).length (last ++ rest) := by rw [h3']; exact hr
  have := conv_take (c := c) last.length (by rw [h3']; exact hl) hr'
  rw [List.take_left' rfl] at this
  exact this
theorem crash_nil (w : World) (p : Nat) (v : Value) (s f : Nat) (d : Dev) (h : HasD w p v s f d) : Calls Try.prog 30 #[.pointer (some ⟨p, 0, none⟩), .slice none 0 0] w fun e w' => e = .returned (.tuple #[]) ∧ HasD w' p v s f (d.crash []) ∧ Fr (OwnD v s f) w w' :=
  crash_calls w p v s f d none 0 [] h ⟨rfl, by decide, fun h => absurd h (by decide)⟩ (fun h => absurd h (by decide))
set_option maxRecDepth 100000 in
set_option maxHeartbeats 4000000 in
theorem drows_good (n : Nat) (A : Option Addr) (c : Nat) (os : List BoP) (w : World) (ho : BoK.C w A os.length os) (hw : ∀ o ∈ os, WfBo w o) (h1 : 1 ≤ n) (h2 : n ≤ 60) (h3 : os.length ≤ 30) :
    Calls Try.prog 14 #[.int .i64 (n : Int), .slice A os.length c] w fun e w' => e = .returned (.bool true) ∧ Below w.heap.size w w' := by
  have HN := Aside0.mk (new_calls w n (by omega))
  have HRM := Aside0.mk (fun (w : World) => room_calls n w (by omega))
  have HO := Aside0.mk ho
  have HW := Aside0.mk hw
  obtain ⟨rm, hrm⟩ : ∃ rm, rm = roomN n := ⟨_, rfl⟩
  have hrb : rm ≤ 1000 := by rw [hrm, roomN]; omega
  rw [← hrm] at HRM
  have HRE := Aside0.mk hrm
  clear ho hw hrm
  go_enter Try.func14, Try.ntmps14
  go_wp2_with (go_at_call 27; ((with_reducible refine HN.out.mono ?_); rintro e w1 ⟨p, v, s, f, rfl, hd1, hp1, hv1, hb1⟩; have HD1 := Aside0.mk hd1; have HV := Aside0.mk hv1; have HB1 := Aside0.mk hb1; clear hd1 hp1 hv1 hb1))
  go_loopw [7, 8, 42] (fun nv lv i wr => ∃ (k m : Nat) (last : List Int) (d : Dev) (W : Nat → List Int), k ≤ os.length ∧ m ≤ k ∧ nv = .int .i64 (m : Int) ∧ lv = .string (strOfNums last) ∧ i = .int .i64 (k : Int) ∧ Aside0 (HasD wr p v s f d) ∧ Aside0 (RowsR n W d m last) ∧ Aside0 (Below w.heap.size w wr)) (fun _ _ i _ => (os.length - intOf i).toNat)
  case atStart => exact ⟨0, 0, [], _, _, Nat.zero_le _, Nat.le_refl _, rfl, rfl, rfl, HD1, ⟨rows_start n⟩, HB1⟩
  case round =>
    obtain ⟨k, m, last, d, W, hk, hm, rfl, rfl, rfl, HD, HR, HB⟩ := hrel
    by_cases hlt : k < os.length
    · (obtain ⟨o, hx⟩ : ∃ o, os[k]? = some o := ⟨_, List.getElem?_eq_getElem hlt⟩; obtain ⟨bb, ob, hB, hcb⟩ := C_at (Kd.C_below HO.out HB.out) (by decide) hx; subst hB; have hwo := HW.out o (List.mem_of_getElem? hx); obtain ⟨oA, oc, ol⟩ := o; have b0 : wr.cell? ⟨bb, ob + k, none⟩ = some (.slice oA ol.length oc) := (by have := hcb 0 (by decide); simpa [encBo] using this); have HRo := Aside0.mk (hwo.1.below HB.out); have HRW := Aside0.mk hwo.1; have HBo := Aside0.mk hwo.2; have hol := hwo.1.2.1; clear hcb hx hwo)
      by_cases hfit : rm < ol.length
      · have hfull : FullD d ol := (rows_full HR.out h1 (by omega) ol).2 (by rw [← HRE.out]; exact hfit)
        have HSV := Aside0.mk (save_full wr p v s f d oA oc ol HD.out hol hfull)
        have HCR := Aside0.mk (fun (w' : World) (hh : HasD w' p v s f d) => crash_nil w' p v s f d hh)
        have HRC := Aside0.mk (rows_crash HR.out h1 HD.out.ok)
        have q1 : decide ((ol.length : Int) ≤ rm) = false := decide_eq_false (by omega)
        have q2 : decide (ol.length ≤ rm) = false := decide_eq_false (by omega)
        by_cases hm0 : m = 0
        · subst hm0
          have HLD := Aside0.mk (fun (w' : World) (hh : HasD w' p v s f (d.crash [])) => load_none w' p v s f (d.crash []) hh (rows_none HRC.out h1))
          clear hfull hfit
          go_wp2_with (first | (go_at_call 30; ((with_reducible refine (HCR.out _ HD3.out).mono ?_); rintro e w4 ⟨rfl, hd, hf⟩; have HD4 := Aside0.mk hd; have HB4 := Aside0.mk (HB3.out.trans (hf.below _ HB3.out.size (fun b hb => HV.out b hb))); clear hd hf)) | (go_at_call 50; ((with_reducible refine (HRM.out _).mono ?_); rintro e wR ⟨rfl, rfl⟩)) | (go_at_call 49; ((with_reducible refine HSV.out.mono ?_); rintro e w3 ⟨rfl, hb⟩; have HD3 := Aside0.mk (HD.out.move hb); have HB3 := Aside0.mk (bel_step HB.out hb); clear hb)) | (go_at_call 51; ((with_reducible refine (HLD.out _ HD4.out).mono ?_); rintro e w5 ⟨rfl, hb⟩; have HD5 := Aside0.mk (HD4.out.move hb); have HB5 := Aside0.mk (bel_step HB4.out hb); clear hb)))
          all_goals
            exact ⟨⟨k + 1, 0, last, _, _, by omega, by omega, rfl, rfl, by go_num, HD5, HRC, HB5⟩, by simp [intOf]; omega⟩
        · have HLD := Aside0.mk (fun (w' : World) (hh : HasD w' p v s f (d.crash [])) => rows_load w' p v s f hh HRC.out h1 (by omega) HRE.out)
          have hsz := strOfNums_size last
          have q3 : ((m : Int) == 0) = false := by rw [beq_eq_false_iff_ne]; omega
          have q4 : (m == 0) = false := by rw [beq_eq_false_iff_ne]; omega
          have q5 : decide (0 < (m : Int)) = true := decide_eq_true (by omega)
          have q6 : decide (0 < m) = true := decide_eq_true (by omega)
          clear hfull hfit hm0
          go_wp2_with (first | (go_at_call 30; ((with_reducible refine (HCR.out _ HD3.out).mono ?_); rintro e w4 ⟨rfl, hd, hf⟩; have HD4 := Aside0.mk hd; have HB4 := Aside0.mk (HB3.out.trans (hf.below _ HB3.out.size (fun b hb => HV.out b hb))); clear hd hf)) | (go_at_call 50; ((with_reducible refine (HRM.out _).mono ?_); rintro e wR ⟨rfl, rfl⟩)) | (go_at_call 49; ((with_reducible refine HSV.out.mono ?_); rintro e w3 ⟨rfl, hb⟩; have HD3 := Aside0.mk (HD.out.move hb); have HB3 := Aside0.mk (bel_step HB.out hb); clear hb)) | (go_at_call 51; ((with_reducible refine (HLD.out _ HD4.out).mono ?_); rintro e w5 ⟨A5, c5, rfl, hl5, hc5, hcv, hb⟩; have htk := take_run A5 c5 rm last.length hl5 hc5 (by omega); have HD5 := Aside0.mk (HD4.out.move hb); have HB5 := Aside0.mk (bel_step HB4.out hb); clear hb)))
          all_goals
            exact ⟨⟨k + 1, m, last, _, _, by omega, by omega, rfl, rfl, by go_num, HD5, HRC, HB5⟩, by simp [intOf]; omega⟩
      · have hfull : ¬ FullD d ol := fun hx => hfit (by rw [HRE.out]; exact (rows_full HR.out h1 (by omega) ol).1 hx)
        have HSV := Aside0.mk (show Calls Try.prog 49 #[.pointer (some ⟨p, 0, none⟩), .slice oA ol.length oc] wr fun e w' => e = .returned (.int .i64 0) ∧ HasD w' p v s f (d.save ol) ∧ Fr (OwnD v s f) wr w' from save_good wr p v s f d oA oc ol HD.out HRo.out HBo.out hfull)
        have HCR := Aside0.mk (fun (w' : World) (hh : HasD w' p v s f (d.save ol)) => crash_nil w' p v s f (d.save ol) hh)
        have HRS := Aside0.mk (rows_save HR.out h1 hfull)
        have HLD := Aside0.mk (fun (w' : World) (hok : (d.save ol).Ok) (hh : HasD w' p v s f ((d.save ol).crash [])) => show Calls Try.prog 51 #[.pointer (some ⟨p, 0, none⟩)] w' (fun e w2 => ∃ A c, e = .returned (.tuple #[.slice A rm c, .int .i64 ((m : Int) + 1), .int .i64 0]) ∧ ol.length ≤ rm ∧ rm ≤ c ∧ (convert 23 9 (.slice A ol.length c)).run Try.prog w2 = .ok (.string (strOfNums ol)) w2 ∧ Below w'.heap.size w' w2) from rows_load w' p v s f hh (rows_crash HRS.out h1 hok) h1 (Nat.succ_pos m) HRE.out)
        have q1 : decide ((ol.length : Int) ≤ rm) = true := decide_eq_true (by omega)
        have q2 : decide (ol.length ≤ rm) = true := decide_eq_true (by omega)
        have hsz := strOfNums_size ol
        have q3 : ((m : Int) + 1 == 0) = false := by rw [beq_eq_false_iff_ne]; omega
        have q5 : decide (0 < (m : Int) + 1) = true := decide_eq_true (by omega)
        clear hfull hfit
        go_wp2_with (first | (go_at_call 30; ((with_reducible refine (HCR.out _ HD3.out).mono ?_); rintro e w4 ⟨rfl, hd, hf⟩; have HD4 := Aside0.mk hd; have HB4 := Aside0.mk (HB3.out.trans (hf.below _ HB3.out.size (fun b hb => HV.out b hb))); clear hd hf)) | (go_at_call 50; ((with_reducible refine (HRM.out _).mono ?_); rintro e wR ⟨rfl, rfl⟩)) | (go_at_call 49; ((with_reducible refine HSV.out.mono ?_); rintro e w3 ⟨rfl, hd, hf⟩; have HD3 := Aside0.mk hd; have HB3 := Aside0.mk (HB.out.trans (hf.below _ HB.out.size (fun b hb => HV.out b hb))); have hcx := conv_n (c := oc) (HRW.out.below HB3.out); clear hd hf)) | (go_at_call 51; ((with_reducible refine (HLD.out _ HD3.out.ok HD4.out).mono ?_); rintro e w5 ⟨A5, c5, rfl, hl5, hc5, hcv, hb⟩; have htk := take_run A5 c5 rm ol.length hl5 hc5 (by omega); have HD5 := Aside0.mk (HD4.out.move hb); have HB5 := Aside0.mk (bel_step HB4.out hb); clear hb)))
        all_goals
          exact ⟨⟨k + 1, m + 1, ol, _, _, by omega, by omega, by go_num, rfl, by go_num, HD5, ⟨rows_crash HRS.out h1 HD3.out.ok⟩, HB5⟩, by simp [intOf]; omega⟩
    · obtain rfl : k = os.length := by omega
      go_wp2_with (go_at_call 48; ((with_reducible refine (dk_alive _).mono ?_); rintro e w9 ⟨rfl, hb⟩; have HB9 := Aside0.mk (bel_step HB.out hb); clear hb))
      go_ret
      exact ⟨rfl, HB9.out⟩
set_option maxRecDepth 100000 in
theorem drows_out (n : Int) (A : Option Addr) (c : Nat) (os : List BoP) (w : World) (ho : BoK.C w A os.length os) (h : n < 0 ∨ 8192 < n) :
    Calls Try.prog 14 #[.int .i64 n, .slice A os.length c] w fun e w' => e = .returned (.bool true) ∧ Below w.heap.size w w' := by
  have HN := Aside0.mk (new_bad w n h)
  clear ho h
  go_enter Try.func14, Try.ntmps14
  go_wp2_with (first | (go_at_call 27; ((with_reducible refine HN.out.mono ?_); rintro e w1 ⟨rfl, hb1⟩; have HB1 := Aside0.mk hb1; clear hb1)) | (go_at_call 48; ((with_reducible refine (dk_alive _).mono ?_); rintro e w3 ⟨rfl, hb⟩; have HB3 := Aside0.mk (bel_step HB1.out hb); clear hb)))
  go_ret
  exact ⟨rfl, HB3.out⟩
set_option maxRecDepth 100000 in
theorem drows_big (n : Nat) (A : Option Addr) (c : Nat) (os : List BoP) (w : World) (ho : BoK.C w A os.length os) (h : n ≤ 8192) (h2 : 60 < n ∨ n < 1 ∨ 30 < os.length) :
    Calls Try.prog 14 #[.int .i64 (n : Int), .slice A os.length c] w fun e w' => e = .returned (.bool true) ∧ Below w.heap.size w w' := by
  have HN := Aside0.mk (new_calls w n h)
  have hl : os.length ≤ 9223372036854775807 := ho.2.1
  clear ho
  rcases (show 60 < n ∨ (¬ 60 < n ∧ n < 1) ∨ (¬ 60 < n ∧ ¬ n < 1 ∧ 30 < os.length) by omega) with h3 | ⟨h3, h4⟩ | ⟨h3, h4, h5⟩
  all_goals
    clear h2
    go_enter Try.func14, Try.ntmps14
    go_wp2_with (first | (go_at_call 27; ((with_reducible refine HN.out.mono ?_); rintro e w1 ⟨p, v, s, f, rfl, hd1, hp1, hv1, hb1⟩; have HB1 := Aside0.mk hb1; clear hd1 hp1 hv1 hb1)) | (go_at_call 48; ((with_reducible refine (dk_alive _).mono ?_); rintro e w3 ⟨rfl, hb⟩; have HB3 := Aside0.mk (bel_step HB1.out hb); clear hb)))
    all_goals
      go_ret
      exact ⟨rfl, HB3.out⟩
theorem diskRows_walk (n : Int) (A : Option Addr) (c : Nat) (os : List BoP) (w : World) (_hn : (Lit.int .i64 n).wf = true) (ho : BoK.C w A os.length os) (hw : ∀ o ∈ os, WfBo w o) :
    Calls Try.prog 14 #[.int .i64 n, .slice A os.length c] w fun e w' => e = .returned (.bool true) ∧ Below w.heap.size w w' := by
  by_cases h : n < 0 ∨ 8192 < n
  · exact drows_out n A c os w ho h
  · obtain ⟨k, rfl⟩ := Int.eq_ofNat_of_zero_le (show 0 ≤ n by omega)
    by_cases h2 : 60 < k ∨ k < 1 ∨ 30 < os.length
    · exact drows_big k A c os w ho (by omega) h2
    · exact drows_good k A c os w ho hw (by omega) (by omega) (by omega)
end Go.Proofs.Ytbfogcckbhkciaa.Hand
