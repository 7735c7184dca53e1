/- The walk of a law of layer 4 (WSeqs), over the contracts of the log. -/
import Derived.Test.YtbfogcckbhkciaaHandZ7
namespace Go.Proofs.Ytbfogcckbhkciaa.Hand
open Go.RowKit Go.Maps Go.Proofs.YtbfogcckbhkciaaW.PrintWords
set_option linter.unusedVariables false
set_option linter.unusedSimpArgs false
/-- A row of sets, as it stands in a row. -/
structure RwP where
  A : Option Addr
  c : Nat
  l : List SetT
def encRw (x : RwP) : List Value := [.slice x.A x.l.length x.c]
theorem encRw_len (x : RwP) : (encRw x).length = 1 := rfl
theorem encRw_one (x : RwP) : ∀ u ∈ encRw x, u.oneCell' = true := by
  intro u hu
  rw [List.mem_singleton.1 hu]
  rfl
def RwK : Kd RwP := flat encRw 1 encRw_len encRw_one
def WfRw (w : World) (x : RwP) : Prop := SetK.C w x.A x.l.length x.l ∧ ∀ s ∈ x.l, WfSt s
theorem rw_cells {H : Type} {enc : TypeId × Value → H} {w : World} {spare : Nat → Bool} {held : Bool} {n : Nat} {cs : List Value} {y : DataW H × List MemPlace} (h : DataW.trod enc Try.prog w 0 spare held n 70 cs = some y) : ∃ x : RwP, cs = encRw x ∧ WfRw w x := by
  obtain ⟨A, len, cap, rfl⟩ : ∃ A len cap, cs = [.slice A len cap] := by
    rcases Go.Deep.open_slice Try.underlying70 h with ⟨hcs, _⟩ | ⟨a, l, c, m, n, D, Pl, hcs, _⟩
    · exact ⟨none, 0, 0, hcs⟩
    · exact ⟨some a, l, c, hcs⟩
  obtain ⟨l, rfl, hr, hb⟩ := open_sets (cap := cap) (d := y.1) (ps := y.2) ⟨n, h⟩
  exact ⟨⟨A, cap, l⟩, rfl, hr, hb⟩
theorem open_setss {H : Type} {enc : TypeId × Value → H} {w : World} {spare : Nat → Bool} {held : Bool} {A : Option Addr} {len cap : Nat} {d : DataW H} {ps : List MemPlace}
    (h : DataW.Trod enc Try.prog w 0 spare held 65 (.slice A len cap) d ps) : ∃ os : List RwP, len = os.length ∧ RwK.C w A os.length os ∧ ∀ o ∈ os, WfRw w o :=
  open_flat Try.underlying65 (by kernel_rfl) (fun n cs y h => rw_cells h) h
/-- The numbers behind sets. -/
def setX (X : List Int) (l : List SetT) : List Int := l.foldl (fun X s => X.set s.1.toNat s.2) X
theorem setX_snoc (X : List Int) (l : List SetT) (s : SetT) : setX X (l ++ [s]) = (setX X l).set s.1.toNat s.2 := by simp [setX, List.foldl_append]
theorem setX_length (X : List Int) (l : List SetT) : (setX X l).length = X.length := by
  induction l generalizing X with
  | nil => rfl
  | cons s l ih =>
    rw [setX, List.foldl_cons]
    exact (ih _).trans (List.length_set ..)
/-- A device and the numbers that it bears outside the region. -/
def SeqR (D : Dev) (X : List Int) : Prop := X.length = 20 ∧ (∀ x ∈ X, 0 ≤ x ∧ x < 18446744073709551616) ∧ ∃ W, Cln D 20 W ∧ ∀ k, k < 20 → ¬ (2 ≤ k ∧ k < 11) → W k = leB (X.getD k 0) 8
theorem seqR_zero : SeqR (Dev.of (List.replicate 160 0)) (List.replicate 20 0) := by
  refine ⟨by simp, fun x hx => by rw [(List.mem_replicate.1 hx).2]; decide, _, zerosW_cln 20, fun k hk _ => ?_⟩
  rw [List.getD_eq_getElem?_getD, List.getElem?_replicate, if_pos hk]
  rfl
theorem recW_out {a nx : Nat} {sets : List SetT} {W : Nat → List Int} {k : Nat} (h : ¬ (a ≤ k ∧ k < a + 1 + 2 * sets.length)) : recW a nx sets W k = W k := by
  rw [recW, putW, if_neg (by omega), newW, if_neg (by omega), putW, if_neg (by omega)]
theorem setX_word {k : Nat} : ∀ (l : List SetT) (W : Nat → List Int) (X : List Int), k < X.length → W k = leB (X.getD k 0) 8 → setW W l k = leB ((setX X l).getD k 0) 8
  | [], _, _, _, h => h
  | s :: l, W, X, hk, h => by
    rw [setW, setX, List.foldl_cons, List.foldl_cons]
    refine setX_word l _ _ (by rw [List.length_set]; exact hk) ?_
    rw [putW]
    by_cases e : k = s.1.toNat
    · subst e
      rw [if_pos rfl, List.getD_eq_getElem?_getD, List.getElem?_set_self hk]
      rfl
    · rw [if_neg e, List.getD_eq_getElem?_getD, List.getElem?_set_ne (fun h => e h.symm), ← List.getD_eq_getElem?_getD]
      exact h
theorem setX_mem : ∀ (l : List SetT) (X : List Int), (∀ s ∈ l, WfSt s) → (∀ x ∈ X, 0 ≤ x ∧ x < 18446744073709551616) → ∀ x ∈ setX X l, 0 ≤ x ∧ x < 18446744073709551616
  | [], _, _, h => h
  | s :: l, X, hw, h => by
    rw [setX, List.foldl_cons]
    refine setX_mem l _ (fun y hy => hw y (List.mem_cons_of_mem _ hy)) (fun x hx => ?_)
    rcases List.mem_or_eq_of_mem_set hx with hx | rfl
    · exact h x hx
    · exact (hw s (List.mem_cons_self ..)).2.2
theorem seqR_step {D : Dev} {X : List Int} {nx : Nat} {sets : List SetT} (h : SeqR D X) (hw : ∀ s ∈ sets, WfSt s) (he : errW 20 2 9 nx sets = 0) (hnx : 1 ≤ nx) : SeqR (D.steps (walM 2 nx sets)) (setX X sets) := by
  obtain ⟨hX, hx, W, hc, hW⟩ := h
  obtain ⟨_, _, h4, _⟩ := errW_ok he
  refine ⟨(setX_length _ _).trans hX, setX_mem _ _ hw hx, _, (wal_rec hc (by decide) (by decide) (by decide) he hw hnx).2, fun k hk ho => ?_⟩
  exact setX_word sets _ _ (by omega) ((recW_out (by omega)).trans (hW k hk ho))
theorem leB_getS (n : Int) (k j : Nat) (h : j < k) : (leB n k)[j]? = some (n / 2 ^ (8 * j) % 256) := by
  induction k with
  | zero => omega
  | succ k ih =>
    rw [leB]
    by_cases hj : j < k
    · rw [List.getElem?_append_left (by rw [leB_length]; exact hj), ih hj]
    · obtain rfl : j = k := by omega
      rw [List.getElem?_append_right (by rw [leB_length]; omega), leB_length, Nat.sub_self]
      rfl
theorem seqR_byte {D : Dev} {X : List Int} (h : SeqR D X) {k i : Nat} (hk : k < 20) (ho : ¬ (2 ≤ k ∧ k < 11)) (hi : i < 8) : D.B[8 * k + i]? = some (X.getD k 0 / 2 ^ (8 * i) % 256) := by
  obtain ⟨hX, hx, W, hc, hW⟩ := h
  have h1 := hc.w k hk
  rw [hW k hk ho] at h1
  have h2 := leB_getS (X.getD k 0) 8 i hi
  rw [← h1, word, cut, List.getElem?_take_of_lt hi, List.getElem?_drop] at h2
  exact h2
theorem seqR_len {D : Dev} {X : List Int} (h : SeqR D X) : D.B.length = 160 := by
  obtain ⟨hX, hx, W, hc, hW⟩ := h
  exact hc.len
theorem seqR_loose {D : Dev} {X : List Int} (h : SeqR D X) : looseM D = [] := by
  obtain ⟨hX, hx, W, hc, hW⟩ := h
  rw [looseM, List.filter_eq_nil_iff.2 (fun k _ => by rw [hc.s k]; simp)]
  rfl
end Go.Proofs.Ytbfogcckbhkciaa.Hand
namespace Go.Proofs.Ytbfogcckbhkciaa.Hand
open Go.RowKit Go.Maps Go.Proofs.YtbfogcckbhkciaaW.PrintWords Go.Proofs.YtbfogcckbhkciaaW.PrintLast
set_option linter.unusedVariables false
set_option linter.unusedSimpArgs false
def sq0 : Dev := Dev.of (List.replicate 160 0)
theorem sq0_cln : Cln sq0 20 (fun _ => zeros8) := zerosW_cln 20
theorem sq0_seq : SeqR sq0 (List.replicate 20 0) := seqR_zero
theorem info_u64q : (Try.prog.info? 74).map (fun i => (i.zero, i.size, i.bytes)) = some (some (.int .u64 0), 1, 8) := by kernel_rfl
section
variable {w : World} {p : Nat} {v : Value} {s f : Nat}
theorem sq_open (h : HasD w p v s f sq0) : Calls Try.prog 41 #[.pointer (some ⟨p, 0, none⟩), .int .i64 2, .int .i64 9] w fun e w' => ∃ (q : Nat), e = .returned (.tuple #[.pointer (some ⟨q, 0, none⟩), .int .i64 0]) ∧ HasL w' q p 2 9 1 ∧ w.heap.size ≤ q ∧ Below w.heap.size w w' := by
  have hl : sq0.B.length / 8 = 20 := by rw [sq0_cln.len]
  have := open4_good w p v s f sq0 2 9 h (by decide) (by rw [hl]; decide)
  rw [show recD sq0 2 9 = (0, []) from zerosW_rec (n := 20) (by decide) (by decide)] at this
  exact this
theorem sq_commit {q nx : Nat} {D : Dev} {X : List Int} {A : Option Addr} {c : Nat} {sets : List SetT} (h : HasD w p v s f D) (hX : SeqR D X) (hl : HasL w q p 2 9 nx) (hq : ¬ OwnD v s f q) (hs : SetK.C w A sets.length sets) (hw : ∀ s ∈ sets, WfSt s) (he : errW 20 2 9 nx sets = 0) :
    Calls Try.prog 42 #[.pointer (some ⟨q, 0, none⟩), .slice A sets.length c] w (fun e w' => e = .returned (.int .i64 0) ∧ HasD w' p v s f (D.steps (walM 2 nx sets)) ∧ HasL w' q p 2 9 (nx + 1) ∧ Fr (fun b => OwnD v s f b ∨ b = q) w w') := by
  have h8 : D.B.length / 8 = 20 := by rw [seqR_len hX]
  exact commit_good w q p v s f D 2 9 nx A c sets h hl hq (by decide) (by rw [h8]; decide) hs hw (by rw [h8]; exact he)
theorem sq_less {q nx : Nat} {D : Dev} {X : List Int} {A : Option Addr} {c : Nat} {sets : List SetT} {r : Int} (h : HasD w p v s f D) (hX : SeqR D X) (hl : HasL w q p 2 9 nx) (hs : SetK.C w A sets.length sets) (he : errW 20 2 9 nx sets = r) (hr : r ≠ 0) :
    Calls Try.prog 42 #[.pointer (some ⟨q, 0, none⟩), .slice A sets.length c] w (fun e w' => e = .returned (.int .i64 r) ∧ Below w.heap.size w w') := by
  have h8 : D.B.length / 8 = 20 := by rw [seqR_len hX]
  subst he
  have := commit_bad w q p v s f D 2 9 nx A c sets h hl (by decide) (by rw [h8]; decide) hs (by rw [h8]; exact hr)
  rw [h8] at this
  exact this
theorem sq_bytes {D : Dev} {X : List Int} (h : HasD w p v s f D) (hX : SeqR D X) : Calls Try.prog 22 #[.pointer (some ⟨p, 0, none⟩)] w fun e w' => ∃ g5 c5, e = .returned (.slice (some ⟨g5, 0, none⟩) 160 c5) ∧ (∀ j, j < 160 → w'.cell? ⟨g5, j, none⟩ = some (.int .u8 (rd D.B j))) ∧ Below w.heap.size w w' := by
  have hl := seqR_len hX
  refine (bytes_calls w p v s f D h).mono ?_
  rintro e w' ⟨u, rfl, hu, hb⟩
  obtain ⟨g, c, rfl, hg, hr, _⟩ := row_form hu (by omega)
  rw [hl] at hr ⊢
  obtain ⟨ad, e, hx⟩ := hr.2.2 (by decide)
  obtain rfl := Option.some.inj e
  refine ⟨g, c, rfl, fun j hj => ?_, hb⟩
  have := hx j (by omega)
  rwa [add_plain, Nat.zero_add] at this
theorem seqR_rd {D : Dev} {X : List Int} (h : SeqR D X) {k i : Nat} (hk : k < 20) (ho : ¬ (2 ≤ k ∧ k < 11)) (hi : i < 8) : rd D.B ((8 * k + i : Nat) : Int) = rdOf 0 X (k : Int) / 2 ^ (8 * i) % 256 := by
  have := seqR_byte h hk ho hi
  rw [rd, List.getD_eq_getElem?_getD, Int.toNat_natCast, this, rdOf, Int.toNat_natCast]
  rfl
theorem sq_loose {D : Dev} {X : List Int} (h : HasD w p v s f D) (hX : SeqR D X) : Calls Try.prog 26 #[.pointer (some ⟨p, 0, none⟩)] w fun e w' => ∃ A c, e = .returned (.slice A 0 c) ∧ Below w.heap.size w w' := by
  refine (loose_calls w p v s f D h).mono ?_
  rintro e w' ⟨u, rfl, hu, hb⟩
  rw [seqR_loose hX] at hu
  obtain ⟨A, c, rfl, _⟩ := ints_own hu
  exact ⟨A, c, rfl, hb⟩
end
theorem errW_valsS (n a k nx : Nat) (sets : List SetT) : errW n a k nx sets = 0 ∨ errW n a k nx sets = 1 ∨ errW n a k nx sets = 40 := by
  unfold errW
  split
  · exact .inr (.inl rfl)
  · split
    · exact .inr (.inl rfl)
    · split
      · exact .inr (.inr rfl)
      · exact .inl rfl
set_option maxRecDepth 100000 in
theorem wseqs_long (A : Option Addr) (c : Nat) (os : List RwP) (w : World) (ho : RwK.C w A os.length os) (h : 30 < os.length) : Calls Try.prog 9 #[.slice A os.length c] w fun e w' => e = .returned (.bool true) ∧ Below w.heap.size w w' := by
  have HN := Aside0.mk (show Calls Try.prog 27 #[.int .i64 20] w (NewDev w (List.replicate 160 0)) from new_calls w 20 (by omega))
  have hl := ho.2.1
  clear ho
  go_enter Try.func9, Try.ntmps9
  go_wp2_with (first | (go_at_call 27; ((with_reducible refine HN.out.mono ?_); rintro e w1 ⟨p, v, s, f, rfl, hd1, hp1, hv1, hb1⟩; have HD1 := Aside0.mk (show HasD w1 p v s f sq0 from hd1); have HV := Aside0.mk hv1; have HPW := Aside0.mk hp1; have HB1 := Aside0.mk hb1; clear hd1 hp1 hv1 hb1)) | (go_at_call 36; ((with_reducible refine (wal_alive _).mono ?_); rintro e w3 ⟨rfl, hb⟩; have HB3 := Aside0.mk (bel_step HB1.out hb); clear hb)))
  go_ret
  exact ⟨rfl, HB3.out⟩
/-- The numbers of the law, in their own block. -/
abbrev WantR (w : World) (g : Nat) (X : List Int) : Prop := Kd.R (Kd.int .u64) 74 w 0 (fun k => k = g) (.slice (some ⟨g, 0, none⟩) 20 20) X
theorem WantR.fr {S : Nat → Prop} {w w1 : World} {g : Nat} {X : List Int} (h : WantR w g X) (hf : Fr S w w1) (hs : ¬ S g) : WantR w1 g X := by
  have ho := Kd.own_of_R h
  refine Kd.R_of_own ?_ h.1
  rcases ho.2 with h2 | ⟨g', cap, cur, e, hg, h3, r⟩
  · exact ⟨ho.1, .inl h2⟩
  · have hgg : g = g' := by
      injection e with e _ _
      injection e with e
      injection e
    subst hgg
    exact ⟨ho.1, .inr ⟨g, cap, cur, e, hg, (hf.block g (blk_lt h3) hs).trans h3, r⟩⟩
set_option maxRecDepth 100000 in
set_option maxHeartbeats 4000000 in
theorem wseqs_good (A : Option Addr) (c : Nat) (os : List RwP) (w : World) (ho : RwK.C w A os.length os) (hw : ∀ o ∈ os, WfRw w o) (h : os.length ≤ 30) : Calls Try.prog 9 #[.slice A os.length c] w fun e w' => e = .returned (.bool true) ∧ Below w.heap.size w w' := by
  have HN := Aside0.mk (show Calls Try.prog 27 #[.int .i64 20] w (NewDev w (List.replicate 160 0)) from new_calls w 20 (by omega))
  have HO := Aside0.mk ho
  have HW := Aside0.mk hw
  have km : ∀ W : World, (Instr.makeSlice 69 (.int .i64 20) (.int .i64 20)).run Try.prog W = .ok (.slice (some ⟨W.heap.size, 0, none⟩) 20 20) (W.alloc (.cells (madeCells #[.int .u64 0] 20) 74)) := print_make (P := Try.prog) 69 74 .u64 8 Try.underlying69 info_u64q (by decide) 20 (by omega)
  clear ho hw
  go_enter Try.func9, Try.ntmps9
  go_wp2_with (first | (go_at_call 27; ((with_reducible refine HN.out.mono ?_); rintro e w1 ⟨p, v, s, f, rfl, hd1, hp1, hv1, hb1⟩; have HD1 := Aside0.mk (show HasD w1 p v s f sq0 from hd1); have HV := Aside0.mk hv1; have HPW := Aside0.mk hp1; have HB1 := Aside0.mk hb1; clear hd1 hp1 hv1 hb1)) | (go_at_call 41; ((with_reducible refine (sq_open HD1.out).mono ?_); rintro e w2 ⟨q, rfl, hl, hq, hb⟩; have HL2 := Aside0.mk hl; have HQ2 := Aside0.mk (not_own_ge HD1.out hq); have HQW := Aside0.mk (Nat.le_trans HB1.out.size hq); have HD2 := Aside0.mk (HD1.out.move hb); have HB2 := Aside0.mk (bel_step HB1.out hb); clear hl hq hb)))
  obtain ⟨w3, hw3⟩ : ∃ w3, w3 = w2.alloc (.cells (madeCells #[.int .u64 0] 20) 74) := ⟨_, rfl⟩
  obtain ⟨g, hg⟩ : ∃ g, g = w2.heap.size := ⟨_, rfl⟩
  have HG3 := Aside0.mk (show WantR w3 g (List.replicate 20 0) from by rw [hw3, hg]; exact Kd.R_of_own (own_made w2 0 74 .u64 20 (Nat.zero_le _) (by decide)) (fun k hk => by simpa [Value.ownBlock] using hk.symm))
  have HD3 := Aside0.mk (show HasD w3 p v s f sq0 from by rw [hw3]; exact HD2.out.move (below_alloc (Below.refl _ _) _))
  have HL3 := Aside0.mk (show HasL w3 q p 2 9 1 from by rw [hw3]; exact HL2.out.below (below_alloc (Below.refl _ _) _))
  have HB3 := Aside0.mk (show Below w.heap.size w w3 from by rw [hw3]; exact below_alloc HB2.out _)
  have HGO := Aside0.mk (show p ≠ g ∧ q ≠ g ∧ ¬ OwnD v s f g ∧ w.heap.size ≤ g from ⟨by have := HD2.out.p_lt; omega, by have := blk_lt HL2.out.ptr; omega, fun hh => by have := HD2.out.own_lt hh; omega, by rw [hg]; exact HB2.out.size⟩)
  rw [← hw3, ← hg]
  clear hw3 hg km
  go_loopw [8, 55] (fun nv i wr => ∃ (t n : Nat) (D : Dev) (X : List Int), t ≤ os.length ∧ n ≤ t ∧ nv = .int .i64 (n : Int) ∧ i = .int .i64 (t : Int) ∧ Aside0 (HasD wr p v s f D) ∧ Aside0 (HasL wr q p 2 9 (n + 1)) ∧ Aside0 (SeqR D X) ∧ Aside0 (WantR wr g X) ∧ Aside0 (Below w.heap.size w wr)) (fun _ i _ => (os.length - intOf i).toNat)
  case atStart => exact ⟨0, 0, _, _, Nat.zero_le _, Nat.le_refl _, rfl, rfl, HD3, HL3, ⟨sq0_seq⟩, HG3, HB3⟩
  case round =>
    obtain ⟨t, n, D, X, ht, hn, rfl, rfl, HD, HL, HX, HG, HB⟩ := hrel
    by_cases hlt : t < os.length
    · obtain ⟨o, hx⟩ : ∃ o, os[t]? = some o := ⟨_, List.getElem?_eq_getElem hlt⟩
      obtain ⟨bb, ob, hA, hcb⟩ := C_at (Kd.C_below HO.out HB.out) (by decide) hx
      subst hA
      have hwo := HW.out o (List.mem_of_getElem? hx)
      obtain ⟨oA, oc, ol⟩ := o
      have b0 : wr.cell? ⟨bb, ob + t, none⟩ = some (.slice oA ol.length oc) := by
        have := hcb 0 (by decide)
        simpa [encRw] using this
      have hol := hwo.1.2.1
      have HC := Aside0.mk (show SetK.C w oA ol.length ol from hwo.1)
      have HWS := Aside0.mk (show ∀ s ∈ ol, WfSt s from hwo.2)
      clear hcb hx hwo
      by_cases h20 : 20 < ol.length
      · go_wp2
        go_roundw
        case rel => exact ⟨t + 1, n, D, X, by omega, by omega, rfl, by go_num, HD, HL, HX, HG, HB⟩
        case measure => simp [intOf]; omega
      · have HOWN := Aside0.mk (own4_calls wr oA oc ol (Kd.C_below HC.out HB.out) (by omega))
        rcases errW_valsS 20 2 9 (n + 1) ol with he | he | he
        · have HE := Aside0.mk he
          clear he
          go_wp2_with (first | (go_at_call 43; ((with_reducible refine HOWN.out.mono ?_); rintro e w6 ⟨v6, rfl, hr6, hb6⟩; obtain ⟨A6, c6, rfl, _, hC6⟩ := flat_reads hr6; have HC6 := Aside0.mk (show SetK.C w6 A6 ol.length ol from hC6); have HD6 := Aside0.mk (HD.out.move hb6); have HL6 := Aside0.mk (HL.out.below hb6); have HB6 := Aside0.mk (bel_step HB.out hb6); have HG6 := Aside0.mk (HG.out.fr (Fr.of_below hb6 (fun _ => False)) (fun h => h)); clear hr6 hC6 hb6)) | (go_at_call 42; ((with_reducible refine (sq_commit HD6.out HX.out HL6.out HQ2.out HC6.out HWS.out HE.out).mono ?_); rintro e w7 ⟨rfl, hd, hl, hf⟩; have HD7 := Aside0.mk hd; have HL7 := Aside0.mk hl; have HB7 := Aside0.mk (HB6.out.trans (hf.below _ HB6.out.size (fun b hb => hb.elim (fun h => HV.out b h) (fun h => h ▸ HQW.out)))); have HG7 := Aside0.mk (HG6.out.fr hf (fun h => h.elim HGO.out.2.2.1 (fun h => HGO.out.2.1 h.symm))); clear hd hl hf)))
          go_loopw [73] (fun i wi => ∃ j : Nat, j ≤ ol.length ∧ i = .int .i64 (j : Int) ∧ Aside0 (WantR wi g (setX X (ol.take j))) ∧ Aside0 (Fr (fun b => b = g) w7 wi)) (fun i _ => (ol.length - intOf i).toNat)
          case atStart => exact ⟨0, Nat.zero_le _, rfl, HG7, ⟨Fr.refl _ _⟩⟩
          case round =>
            obtain ⟨j, hj, rfl, HGi, HFi⟩ := hrel
            by_cases hlj : j < ol.length
            · obtain ⟨x, hx⟩ : ∃ x, ol[j]? = some x := ⟨_, List.getElem?_eq_getElem hlj⟩
              have HBi := Aside0.mk (HB7.out.trans (HFi.out.below _ HB7.out.size (fun b hb => by rw [hb]; exact HGO.out.2.2.2)))
              obtain ⟨bi, oi, hA, hci⟩ := C_at (Kd.C_below HC.out HBi.out) (by decide) hx
              have hmx := may_range ((errW_ok HE.out).1 x (List.mem_of_getElem? hx))
              have HSX := Aside0.mk (show setX X (ol.take (j + 1)) = (setX X (ol.take j)).set x.1.toNat x.2 by rw [List.take_add_one, hx, Option.toList_some, setX_snoc])
              obtain ⟨x, y⟩ := x
              have c0 : wr.cell? ⟨bi, oi + j * 2, none⟩ = some (.int .i64 x) := hci 0 (by decide)
              have c1 : wr.cell? ⟨bi, oi + j * 2 + 1, none⟩ = some (.int .u64 y) := hci 1 (by decide)
              obtain ⟨hx0, hx1⟩ := hmx
              have hx0 : 0 ≤ x := hx0
              have hx1 : x < 20 := hx1
              subst hA
              have hgc := (Kd.R_celln (d := (0 : Int)) HGi.out x hx0 hx1)
              obtain ⟨hgc, hgf⟩ := hgc
              have HFA := Aside0.mk (HFi.out.setCell (p := ⟨g, x.toNat, none⟩) (.inl rfl) (.int .u64 y))
              have HGA := Aside0.mk (WantR.fr (Kd.R_putn HGi.out x y) (Fr.of_below (below_alloc (Below.refl _ _) (.cells #[.int .i64 x, .int .u64 y] 76)) (fun _ => False)) (fun h => h))
              have HFB := Aside0.mk (HFA.out.alloc (.cells #[.int .i64 x, .int .u64 y] 76))
              have HSY := Aside0.mk (show setX X (ol.take (j + 1)) = (setX X (ol.take j)).set x.toNat y from HSX.out)
              have hgl : g < wr.heap.size := World.block_lt_of_cell? wr _ hgc
              clear hci hx b0
              go_wp2
              go_roundw
              case rel => exact ⟨j + 1, by omega, by go_num, ⟨by rw [HSY.out]; exact HGA.out⟩, HFB⟩
              case measure => simp [intOf]; omega
            · obtain rfl : j = ol.length := by omega
              have HDe := Aside0.mk (HD7.out.fr HFi.out (fun h => HGO.out.1 h) (fun b hb h => HGO.out.2.2.1 (h ▸ hb)))
              have HLe := Aside0.mk (HL7.out.fr HFi.out (fun h => HGO.out.2.1 h))
              have HBe := Aside0.mk (HB7.out.trans (HFi.out.below _ HB7.out.size (fun b hb => by rw [hb]; exact HGO.out.2.2.2)))
              have HXe := Aside0.mk (seqR_step HX.out HWS.out HE.out (by omega))
              have HGe := Aside0.mk (show WantR wr g (setX X ol) from by have := HGi.out; rw [List.take_of_length_le (Nat.le_refl _)] at this; exact this)
              go_wp2
              go_roundw
              case rel => exact ⟨t + 1, n + 1, _, _, by omega, by omega, by go_num, by go_num, HDe, HLe, HXe, HGe, HBe⟩
              case measure => simp [intOf]; omega
        all_goals
          have HE := Aside0.mk he
          clear he
          go_wp2_with (first | (go_at_call 43; ((with_reducible refine HOWN.out.mono ?_); rintro e w6 ⟨v6, rfl, hr6, hb6⟩; obtain ⟨A6, c6, rfl, _, hC6⟩ := flat_reads hr6; have HC6 := Aside0.mk (show SetK.C w6 A6 ol.length ol from hC6); have HD6 := Aside0.mk (HD.out.move hb6); have HL6 := Aside0.mk (HL.out.below hb6); have HB6 := Aside0.mk (bel_step HB.out hb6); have HG6 := Aside0.mk (HG.out.fr (Fr.of_below hb6 (fun _ => False)) (fun h => h)); clear hr6 hC6 hb6)) | (go_at_call 42; ((with_reducible refine (sq_less HD6.out HX.out HL6.out HC6.out HE.out (by decide)).mono ?_); rintro e w7 ⟨rfl, hb7⟩; have HD7 := Aside0.mk (HD6.out.move hb7); have HL7 := Aside0.mk (HL6.out.below hb7); have HB7 := Aside0.mk (bel_step HB6.out hb7); have HG7 := Aside0.mk (HG6.out.fr (Fr.of_below hb7 (fun _ => False)) (fun h => h)); clear hb7)))
          go_roundw
          case rel => exact ⟨t + 1, n, D, X, by omega, by omega, rfl, by go_num, HD7, HL7, HX, HG7, HB7⟩
          case measure => simp [intOf]; omega
    · obtain rfl : t = os.length := by omega
      have HOWNED := Aside0.mk HGO.out.2.2.2
      go_wp2_with (go_at_call 22; ((with_reducible refine (sq_bytes HD.out HX.out).mono ?_); rintro e w5 ⟨g5, c5, rfl, hcB, hb⟩; have HC5 := Aside0.mk hcB; have HD5 := Aside0.mk (HD.out.move hb); have HL5 := Aside0.mk (HL.out.below hb); have HB5 := Aside0.mk (bel_step HB.out hb); have HW5 := Aside0.mk (HG.out.fr (Fr.of_below hb (fun _ => False)) (fun h => h)); clear hcB hb))
      go_loopw [89] (fun i wr => ∃ k : Nat, k ≤ 20 ∧ i = .int .i64 (k : Int) ∧ Aside0 (Below w5.heap.size w5 wr)) (fun i _ => (20 - intOf i).toNat)
      case atStart => exact ⟨0, Nat.zero_le _, rfl, ⟨Below.refl _ _⟩⟩
      case round =>
        obtain ⟨k, hk, rfl, HBk⟩ := hrel
        by_cases hlk : k < 20
        · have HGk := Aside0.mk (HW5.out.fr (Fr.of_below HBk.out (fun _ => False)) (fun h => h))
          obtain ⟨hgc, _⟩ := Kd.R_celln (d := (0 : Int)) HGk.out (k : Int) (by omega) (by omega)
          rw [Int.toNat_natCast] at hgc
          have HRD := Aside0.mk (fun (i : Nat) (ho : ¬ (2 ≤ k ∧ k < 11)) (hi : i < 8) => seqR_rd HX.out hlk ho hi)
          have hyr : 0 ≤ rdOf 0 X (k : Int) ∧ rdOf 0 X (k : Int) < 18446744073709551616 := by
            have h1 := HX.out.1
            refine HX.out.2.1 _ ?_
            rw [rdOf, Int.toNat_natCast, List.getD_eq_getElem?_getD, List.getElem?_eq_getElem (by omega)]
            exact List.getElem_mem _
          obtain ⟨y, hy⟩ : ∃ y, y = rdOf 0 X (k : Int) := ⟨_, rfl⟩
          rw [← hy] at hgc HRD hyr
          obtain ⟨hy0, hy1⟩ := hyr
          have hgc : wr.cell? ⟨g, k, none⟩ = some (.int .u64 y) := hgc
          clear hy
          rcases (show k < 2 ∨ (2 ≤ k ∧ k < 11) ∨ (2 ≤ k ∧ 11 ≤ k) by omega) with z1 | ⟨z1, z2⟩ | ⟨z1, z2⟩
          rotate_left
          · go_wp2
            go_roundw
            case rel => exact ⟨k + 1, by omega, by go_num, HBk⟩
            case measure => simp [intOf]; omega
          all_goals
            go_wp2
            go_loopw [100] (fun i wi => ∃ j : Nat, j ≤ 8 ∧ i = .int .i64 (j : Int) ∧ Aside0 (Below w5.heap.size w5 wi)) (fun i _ => (8 - intOf i).toNat)
            case atStart => exact ⟨0, Nat.zero_le _, rfl, HBk⟩
            case round =>
              obtain ⟨j, hj, rfl, HBj⟩ := hrel
              by_cases hlj : j < 8
              · have hcell : wr.cell? ⟨g5, 8 * k + j, none⟩ = some (.int .u8 (y / 2 ^ (8 * j) % 256)) := by
                  have h1 := HC5.out (8 * k + j) (by omega)
                  rw [HRD.out j (by omega) hlj] at h1
                  exact (HBj.out.cell (World.block_lt_of_cell? _ _ h1)).trans h1
                clear hgc
                go_wp2
                have EW1 := Aside0.mk (show IntKind.i64.wrap (8 * (k : Int)) = 8 * k from IntWalk.i64_in _ (by omega))
                have EW2 := Aside0.mk (show IntKind.i64.wrap (8 * (k : Int) + j) = 8 * k + j from IntWalk.i64_in _ (by omega))
                have EW3 := Aside0.mk (show 0 ≤ 8 * (k : Int) + j ∧ 8 * (k : Int) + j < 160 by omega)
                have EW4 := Aside0.mk (show (8 * (k : Int) + j).toNat = 8 * k + j by omega)
                have EW5 := Aside0.mk (show IntKind.i64.wrap (8 * (j : Int)) = 8 * j from IntWalk.i64_in _ (by omega))
                have EW6 := Aside0.mk (show (8 * (j : Int)).toNat = 8 * j by omega)
                have EW7 := Aside0.mk (show IntKind.u8.wrap (y / 2 ^ (8 * j)) = y / 2 ^ (8 * j) % 256 from by first | rfl | (simp [IntKind.wrap]; done) | (unfold IntKind.wrap; rfl))
                refine start_ (n := 18) (S := fun w' => w'.cell? ⟨g5, 8 * k + j, none⟩ = some (.int .u8 (y / 2 ^ (8 * j) % 256))) (ds := []) #[false, false, false, false, false, false, false, false, false, false, false, false, false, false, false, false, false, false] (by kernel_rfl) rfl rfl (hcell) (fun hHeld => ?_)
                refine pure_ (i := 0) (N := some 103) (v := ?_) (a' := ?_) #[true, false, false, false, false, false, false, false, false, false, false, false, false, false, false, false, false, false] rfl rfl (by kernel_rfl) (fun _ _ _ h => h) (Or.inl ⟨by rfl, ?_⟩) ?_ ?_
                rotate_left
                · intro w'
                  go_simp
                  with_reducible rfl
                rotate_left
                · simp only [Act.put, List.setIfInBounds_toArray, List.set_cons_zero, List.set_cons_succ, i64_w, i32_w]
                  rfl
                refine pure_ (i := 1) (N := some 104) (v := ?_) (a' := ?_) #[true, true, false, false, false, false, false, false, false, false, false, false, false, false, false, false, false, false] rfl rfl (by kernel_rfl) (fun _ _ _ h => h) (Or.inl ⟨by rfl, ?_⟩) ?_ ?_
                rotate_left
                · intro w'
                  go_simp
                  with_reducible rfl
                rotate_left
                · simp only [Act.put, List.setIfInBounds_toArray, List.set_cons_zero, List.set_cons_succ, i64_w, i32_w]
                  rfl
                refine pure_ (i := 2) (N := some 105) (v := ?_) (a' := ?_) #[true, true, true, false, false, false, false, false, false, false, false, false, false, false, false, false, false, false] rfl rfl (by kernel_rfl) (fun _ _ _ h => h) (Or.inl ⟨by rfl, ?_⟩) ?_ ?_
                rotate_left
                · intro w'
                  go_simp
                  with_reducible rfl
                rotate_left
                · simp only [Act.put, List.setIfInBounds_toArray, List.set_cons_zero, List.set_cons_succ, i64_w, i32_w]
                  rfl
                refine pure_ (i := 3) (N := some 106) (v := ?_) (a' := ?_) #[true, true, true, true, false, false, false, false, false, false, false, false, false, false, false, false, false, false] rfl rfl (by kernel_rfl) (fun _ _ _ h => h) (Or.inl ⟨by rfl, ?_⟩) ?_ ?_
                rotate_left
                · intro w'
                  go_simp
                  with_reducible rfl
                rotate_left
                · simp only [Act.put, List.setIfInBounds_toArray, List.set_cons_zero, List.set_cons_succ, i64_w, i32_w]
                  rfl
                refine pure_ (i := 4) (N := some 107) (v := ?_) (a' := ?_) #[true, true, true, true, true, false, false, false, false, false, false, false, false, false, false, false, false, false] rfl rfl (by kernel_rfl) (fun _ _ _ h => h) (Or.inl ⟨by rfl, ?_⟩) ?_ ?_
                rotate_left
                · intro w'
                  go_simp
                  with_reducible rfl
                rotate_left
                · simp only [Act.put, List.setIfInBounds_toArray, List.set_cons_zero, List.set_cons_succ, i64_w, i32_w]
                  rfl
                refine pure_ (i := 5) (N := some 108) (v := ?_) (a' := ?_) #[true, true, true, true, true, true, false, false, false, false, false, false, false, false, false, false, false, false] rfl rfl (by kernel_rfl) (fun _ _ _ h => h) (Or.inl ⟨by rfl, ?_⟩) ?_ ?_
                rotate_left
                · intro w'
                  go_simp
                  with_reducible rfl
                rotate_left
                · simp only [Act.put, List.setIfInBounds_toArray, List.set_cons_zero, List.set_cons_succ, i64_w, i32_w]
                  rfl
                refine pure_ (i := 6) (N := some 109) (v := ?_) (a' := ?_) #[true, true, true, true, true, true, true, false, false, false, false, false, false, false, false, false, false, false] rfl rfl (by kernel_rfl) (fun _ _ _ h => h) (Or.inl ⟨by rfl, ?_⟩) ?_ ?_
                rotate_left
                · intro w'
                  go_simp
                  rw [EW1.out]
                  try with_reducible rfl
                rotate_left
                · simp only [Act.put, List.setIfInBounds_toArray, List.set_cons_zero, List.set_cons_succ, i64_w, i32_w]
                  rfl
                refine pure_ (i := 7) (N := some 110) (v := ?_) (a' := ?_) #[true, true, true, true, true, true, true, true, false, false, false, false, false, false, false, false, false, false] rfl rfl (by kernel_rfl) (fun _ _ _ h => h) (Or.inl ⟨by rfl, ?_⟩) ?_ ?_
                rotate_left
                · intro w'
                  go_simp
                  with_reducible rfl
                rotate_left
                · simp only [Act.put, List.setIfInBounds_toArray, List.set_cons_zero, List.set_cons_succ, i64_w, i32_w]
                  rfl
                refine pure_ (i := 8) (N := some 111) (v := ?_) (a' := ?_) #[true, true, true, true, true, true, true, true, true, false, false, false, false, false, false, false, false, false] rfl rfl (by kernel_rfl) (fun _ _ _ h => h) (Or.inl ⟨by rfl, ?_⟩) ?_ ?_
                rotate_left
                · intro w'
                  go_simp
                  rw [EW2.out]
                  try with_reducible rfl
                rotate_left
                · simp only [Act.put, List.setIfInBounds_toArray, List.set_cons_zero, List.set_cons_succ, i64_w, i32_w]
                  rfl
                refine pure_ (i := 9) (N := some 112) (v := ?_) (a' := ?_) #[true, true, true, true, true, true, true, true, true, true, false, false, false, false, false, false, false, false] rfl rfl (by kernel_rfl) (fun _ _ _ h => h) (Or.inl ⟨by rfl, ?_⟩) ?_ ?_
                rotate_left
                · intro w'
                  go_simp
                  rw [if_pos EW3.out, EW4.out]
                  try with_reducible rfl
                rotate_left
                · simp only [Act.put, List.setIfInBounds_toArray, List.set_cons_zero, List.set_cons_succ, i64_w, i32_w]
                  rfl
                refine pure_ (i := 11) (N := some 114) (v := ?_) (a' := ?_) #[true, true, true, true, true, true, true, true, true, true, false, true, false, false, false, false, false, false] rfl rfl (by kernel_rfl) (fun _ _ _ h => h) (Or.inl ⟨by rfl, ?_⟩) ?_ ?_
                rotate_left
                · intro w'
                  go_simp
                  with_reducible rfl
                rotate_left
                · simp only [Act.put, List.setIfInBounds_toArray, List.set_cons_zero, List.set_cons_succ, i64_w, i32_w]
                  rfl
                refine pure_ (i := 12) (N := some 115) (v := ?_) (a' := ?_) #[true, true, true, true, true, true, true, true, true, true, false, true, true, false, false, false, false, false] rfl rfl (by kernel_rfl) (fun _ _ _ h => h) (Or.inl ⟨by rfl, ?_⟩) ?_ ?_
                rotate_left
                · intro w'
                  go_simp
                  with_reducible rfl
                rotate_left
                · simp only [Act.put, List.setIfInBounds_toArray, List.set_cons_zero, List.set_cons_succ, i64_w, i32_w]
                  rfl
                refine pure_ (i := 13) (N := some 116) (v := ?_) (a' := ?_) #[true, true, true, true, true, true, true, true, true, true, false, true, true, true, false, false, false, false] rfl rfl (by kernel_rfl) (fun _ _ _ h => h) (Or.inl ⟨by rfl, ?_⟩) ?_ ?_
                rotate_left
                · intro w'
                  go_simp
                  rw [EW5.out]
                  try with_reducible rfl
                rotate_left
                · simp only [Act.put, List.setIfInBounds_toArray, List.set_cons_zero, List.set_cons_succ, i64_w, i32_w]
                  rfl
                refine pure_ (i := 14) (N := some 117) (v := ?_) (a' := ?_) #[true, true, true, true, true, true, true, true, true, true, false, true, true, true, true, false, false, false] rfl rfl (by kernel_rfl) (fun _ _ _ h => h) (Or.inl ⟨by rfl, ?_⟩) ?_ ?_
                rotate_left
                · intro w'
                  go_simp
                  rw [EW6.out]
                  try with_reducible rfl
                rotate_left
                · simp only [Act.put, List.setIfInBounds_toArray, List.set_cons_zero, List.set_cons_succ, i64_w, i32_w]
                  rfl
                refine pure_ (i := 15) (N := some 118) (v := ?_) (a' := ?_) #[true, true, true, true, true, true, true, true, true, true, false, true, true, true, true, true, false, false] rfl rfl (by kernel_rfl) (fun _ _ _ h => h) (Or.inl ⟨by rfl, ?_⟩) ?_ ?_
                rotate_left
                · intro w'
                  go_simp
                  rw [EW7.out]
                  try with_reducible rfl
                rotate_left
                · simp only [Act.put, List.setIfInBounds_toArray, List.set_cons_zero, List.set_cons_succ, i64_w, i32_w]
                  rfl
                refine take_ (i := 10) (N := some 113) (v := ?_) (a' := ?_) #[true, true, true, true, true, true, true, true, true, true, true, true, true, true, true, true, false, false] rfl rfl (by kernel_rfl) (fun _ _ _ h => h) (Or.inl ⟨by rfl, ?_⟩) hHeld ?_ ?_
                rotate_left
                · intro w' s0
                  go_simp
                  with_reducible rfl
                rotate_left
                · simp only [Act.put, List.setIfInBounds_toArray, List.set_cons_zero, List.set_cons_succ, i64_w, i32_w]
                  rfl
                refine pure_ (i := 16) (N := some 119) (v := ?_) (a' := ?_) #[true, true, true, true, true, true, true, true, true, true, true, true, true, true, true, true, true, false] rfl rfl (by kernel_rfl) (fun _ _ _ h => h) (Or.inl ⟨by rfl, ?_⟩) ?_ ?_
                rotate_left
                · intro w'
                  go_simp
                  with_reducible rfl
                rotate_left
                · simp only [Act.put, List.setIfInBounds_toArray, List.set_cons_zero, List.set_cons_succ, i64_w, i32_w]
                  rfl
                refine pure_ (i := 17) (N := some 120) (v := ?_) (a' := ?_) #[true, true, true, true, true, true, true, true, true, true, true, true, true, true, true, true, true, true] rfl rfl (by kernel_rfl) (fun _ _ _ h => h) (Or.inl ⟨by rfl, ?_⟩) ?_ ?_
                rotate_left
                · intro w'
                  go_simp
                  with_reducible rfl
                rotate_left
                · simp only [Act.put, List.setIfInBounds_toArray, List.set_cons_zero, List.set_cons_succ, i64_w, i32_w]
                  rfl
                refine done_ (by kernel_rfl) ?_
                go_wp2
                exact ⟨⟨j + 1, by omega, by go_num, ⟨HBj.out.drew⟩⟩, by simp [intOf]; omega⟩
              · obtain rfl : j = 8 := by omega
                go_wp2
                go_roundw
                case rel => exact ⟨k + 1, by omega, by go_num, HBj⟩
                case measure => simp [intOf]; omega
        · obtain rfl : k = 20 := by omega
          have HBE := Aside0.mk (bel_step HB5.out HBk.out)
          have HDE := Aside0.mk (HD5.out.move HBk.out)
          have HLE := Aside0.mk (HL5.out.below HBk.out)
          go_wp2_with (first | (go_at_call 36; ((with_reducible refine (wal_alive _).mono ?_); rintro e w8 ⟨rfl, hb⟩; have HB8 := Aside0.mk (bel_step HBE.out hb); have HD8 := Aside0.mk (HDE.out.move hb); have HL8 := Aside0.mk (HLE.out.below hb); clear hb)) | (go_at_call 44; ((with_reducible refine (seq4_calls _ q p 2 9 _ HL8.out).mono ?_); rintro e wA ⟨rfl, rfl⟩)) | (go_at_call 26; ((with_reducible refine (sq_loose HD8.out HX.out).mono ?_); rintro e wB ⟨AB, cB, rfl, hb⟩; have HBB := Aside0.mk (bel_step HB8.out hb); clear hb)))
          go_ret
          exact ⟨by simp, HBB.out⟩
theorem walSeqs_walk (A : Option Addr) (c : Nat) (os : List RwP) (w : World) (ho : RwK.C w A os.length os) (hw : ∀ o ∈ os, WfRw w o) : Calls Try.prog 9 #[.slice A os.length c] w fun e w' => e = .returned (.bool true) ∧ Below w.heap.size w w' := by
  by_cases h : 30 < os.length
  · exact wseqs_long A c os w ho h
  · exact wseqs_good A c os w ho hw (by omega)
end Go.Proofs.Ytbfogcckbhkciaa.Hand
