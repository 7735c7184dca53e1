/- The walk of a law of layer 4 (WTorn), over the contracts of the log. -/
import Derived.Test.YtbfogcckbhkciaaHandZ7
namespace Go.Proofs.Ytbfogcckbhkciaa.Hand
open Go.RowKit Go.Maps Go.Proofs.YtbfogcckbhkciaaW.PrintWords
set_option linter.unusedVariables false
set_option linter.unusedSimpArgs false
theorem crc_set4 {l : List Int} {a : Nat} {z : Int} (ha : a < l.length) (hl : Bys l) (hz : 0 ≤ z ∧ z < 256) (hne : z ≠ rd l a) : crcI (l.set a z) ≠ crcI l := by
  intro h
  have hx : l = l.take a ++ rd l a :: l.drop (a + 1) := by
    have h1 := List.take_append_drop (a + 1) l
    rw [take_rd ha, List.append_assoc] at h1
    exact h1.symm
  have hs : l.set a z = l.take a ++ z :: l.drop (a + 1) := by rw [List.set_eq_take_append_cons_drop, if_pos ha]
  have h2 := tI_inj h
  rw [hs] at h2
  conv at h2 => rhs; rw [hx]
  rw [crcV_append, crcV_append] at h2
  have h3 : crcV (byteV (crcV 0#16 (l.take a)) z) (l.drop (a + 1)) = crcV (byteV (crcV 0#16 (l.take a)) (rd l a)) (l.drop (a + 1)) := h2
  exact hne (byteV_byte hz (rd_bys hl a) (crcV_inj _ h3))
theorem leB_two_inj4 {m n : Int} (hm : 0 ≤ m ∧ m < 65536) (hn : 0 ≤ n ∧ n < 65536) (h : leB m 2 = leB n 2) : m = n := by
  simp [leB] at h
  omega
theorem leB_num {x : List Int} (h : Bys x) {k : Nat} (hk : x.length = k) : leB (numL x) k = x := by
  refine numL_inj (leB_bysq _ _) h (by rw [leB_length, hk]) ?_
  rw [numL_leBq]
  refine Int.emod_eq_of_lt (numL_nonneg h) ?_
  have := numL_lt h
  rw [hk, pow256] at this
  exact this
theorem cut_add (l : List Int) (a m n : Nat) : cut l a (m + n) = cut l a m ++ cut l (a + m) n := by rw [cut, cut, cut, List.take_add, List.drop_drop]
theorem body_of {b : List Int} (hb : Bys b) : ∀ m, 8 + 16 * m ≤ b.length → bodyL (setsB b m) = cut b 8 (16 * m)
  | 0, _ => by simp [setsB, bodyL, cut]
  | m + 1, h => by
    rw [setsB_succ, bodyL_snoc, body_of hb m (by omega), show 16 * (m + 1) = 16 * m + 8 + 8 by omega, cut_add, cut_add]
    congr 1
    · congr 1
      rw [show (atB b m, nB b m).1 = numL (cut b (8 + 16 * m) 8) from rfl, leB_num (cut_bys hb _ _) (cut_length (by omega))]
    · rw [show (atB b m, nB b m).2 = numL (cut b (16 + 16 * m) 8) from rfl, leB_num (cut_bys hb _ _) (cut_length (by omega))]
      congr 1
      omega
theorem cut_set (b : List Int) (at_ a m : Nat) (z : Int) : cut (b.set at_ z) a m = if at_ < a then cut b a m else (cut b a m).set (at_ - a) z := by
  rw [cut, cut, List.drop_set]
  split
  · rfl
  · rw [List.take_set]
theorem set_out {l : List Int} {i : Nat} {z : Int} (h : l.length ≤ i) : l.set i z = l := List.set_eq_of_length_le h
theorem hd6_of {b : List Int} (hb : Bys b) (h : 8 ≤ b.length) : hd6 (manyB b) (seqB b) = cut b 0 6 := by
  rw [hd6, manyB, seqB, leB_num (cut_bys hb _ _) (cut_length (by omega)), leB_num (cut_bys hb _ _) (cut_length (by omega)), show (6 : Nat) = 2 + 4 from rfl, cut_add]
/-- A record stands just if its sum does. -/
theorem head_iff {b : List Int} (hb : Bys b) {m : Nat} (h : 8 + 16 * m ≤ b.length) : headL (manyB b) (seqB b) (bodyL (setsB b m)) = b.take 8 ↔ leB (crcI (cut b 0 6 ++ cut b 8 (16 * m))) 2 = cut b 6 2 := by
  have e : b.take 8 = cut b 0 6 ++ cut b 6 2 := by
    have := cut_add b 0 6 2
    rw [show cut b 0 (6 + 2) = b.take 8 by rw [cut, List.drop_zero]] at this
    simpa using this
  rw [headL, hd6_of hb (by omega), body_of hb m h, e]
  exact ⟨fun h => List.append_cancel_left h, fun h => by rw [h]⟩
theorem rec_torn {n a k : Nat} {b : List Int} (hb : Bys b) {sets : List SetT} {q : Int} (h0 : 0 < sets.length) (hr : recB n a k b = (q, sets)) (hl : 8 + 16 * sets.length ≤ b.length) {at_ : Nat} {z : Int} (h2 : 2 ≤ at_) (hat : at_ < 8 + 16 * sets.length) (hz : 0 ≤ z ∧ z < 256) (hne : z ≠ rd b at_) :
    recB n a k (b.set at_ z) = (0, []) := by
  have hb1 : Bys (b.set at_ z) := by
    intro x hx
    rcases List.mem_or_eq_of_mem_set hx with hx | rfl
    · exact hb x hx
    · exact hz
  have hl1 : (b.set at_ z).length = b.length := List.length_set ..
  -- what stood
  have hB : ¬ BadH k b := fun h => by
    rw [recB, if_pos h] at hr
    have := congrArg (fun x => x.2.length) hr
    simp at this
    omega
  have hA : ¬ (setsB b (manyB b).toNat).all (fun s => okB n a k s.1) = false := fun h => by
    rw [recB, if_neg hB, if_pos h] at hr
    have := congrArg (fun x => x.2.length) hr
    simp at this
    omega
  have hH : headL (manyB b) (seqB b) (bodyL (setsB b (manyB b).toNat)) = b.take 8 := by
    by_cases h : headL (manyB b) (seqB b) (bodyL (setsB b (manyB b).toNat)) = b.take 8
    · exact h
    · rw [recB, if_neg hB, if_neg hA, if_neg h] at hr
      have := congrArg (fun x => x.2.length) hr
      simp at this
      omega
  have hm : (manyB b).toNat = sets.length := by
    rw [recB, if_neg hB, if_neg hA, if_pos hH] at hr
    have := congrArg (fun x => x.2.length) hr
    simp only [setsB_length] at this
    exact this
  rw [hm, head_iff hb hl] at hH
  have hmany : manyB (b.set at_ z) = manyB b := by
    rw [manyB, manyB, cut_set, if_neg (by omega), set_out (by rw [cut_length (by omega)]; omega)]
  by_cases hB1 : BadH k (b.set at_ z)
  · rw [recB, if_pos hB1]
  · by_cases hA1 : (setsB (b.set at_ z) (manyB (b.set at_ z)).toNat).all (fun s => okB n a k s.1) = false
    · rw [recB, if_neg hB1, if_pos hA1]
    · rw [recB, if_neg hB1, if_neg hA1, if_neg]
      rw [hmany, hm, ← hmany, head_iff hb1 (by rw [hl1]; exact hl)]
      intro hH1
      have c0 : (cut b 0 6).length = 6 := cut_length (by omega)
      have c6 : (cut b 6 2).length = 2 := cut_length (by omega)
      have c8 : (cut b 8 (16 * sets.length)).length = 16 * sets.length := cut_length (by omega)
      have hX : Bys (cut b 0 6 ++ cut b 8 (16 * sets.length)) := by
        intro x hx
        rcases List.mem_append.1 hx with hx | hx
        · exact cut_bys hb _ _ x hx
        · exact cut_bys hb _ _ x hx
      have hrd : ∀ (x : List Int) (i : Nat), x[i]? = b[at_]? → rd x i = rd b at_ := by
        intro x i hx
        simp only [rd, Int.toNat_natCast, List.getD_eq_getElem?_getD, hx]
      rcases (show at_ < 6 ∨ (6 ≤ at_ ∧ at_ < 8) ∨ 8 ≤ at_ by omega) with h | ⟨h, h'⟩ | h
      · have e0 : cut (b.set at_ z) 0 6 = (cut b 0 6).set at_ z := by rw [cut_set, if_neg (by omega), Nat.sub_zero]
        have e8 : cut (b.set at_ z) 8 (16 * sets.length) = cut b 8 (16 * sets.length) := by rw [cut_set, if_pos (by omega)]
        have e6 : cut (b.set at_ z) 6 2 = cut b 6 2 := by rw [cut_set, if_pos h]
        rw [e0, e8, e6, ← hH, ← List.set_append_left _ _ (by omega)] at hH1
        refine crc_set4 (by rw [List.length_append]; omega) hX hz ?_ (leB_two_inj4 (tI_lt _) (tI_lt _) hH1)
        rw [hrd _ at_ (by rw [List.getElem?_append_left (by omega), cut, List.drop_zero, List.getElem?_take_of_lt h])]
        exact hne
      · have e0 : cut (b.set at_ z) 0 6 = cut b 0 6 := by rw [cut_set, if_neg (by omega), set_out (by omega)]
        have e8 : cut (b.set at_ z) 8 (16 * sets.length) = cut b 8 (16 * sets.length) := by rw [cut_set, if_pos (by omega)]
        have e6 : cut (b.set at_ z) 6 2 = (cut b 6 2).set (at_ - 6) z := by rw [cut_set, if_neg (by omega)]
        rw [e0, e8, e6, hH] at hH1
        have h3 := congrArg (fun x => x[at_ - 6]?) hH1
        rw [List.getElem?_set_self (by omega), cut, List.getElem?_take_of_lt (by omega), List.getElem?_drop, show 6 + (at_ - 6) = at_ by omega] at h3
        refine hne ?_
        simp only [rd, Int.toNat_natCast, List.getD_eq_getElem?_getD, h3]
        rfl
      · have e0 : cut (b.set at_ z) 0 6 = cut b 0 6 := by rw [cut_set, if_neg (by omega), set_out (by omega)]
        have e8 : cut (b.set at_ z) 8 (16 * sets.length) = (cut b 8 (16 * sets.length)).set (at_ - 8) z := by rw [cut_set, if_neg (by omega)]
        have e6 : cut (b.set at_ z) 6 2 = cut b 6 2 := by rw [cut_set, if_neg (by omega), set_out (by omega)]
        have e9 : cut b 0 6 ++ (cut b 8 (16 * sets.length)).set (at_ - 8) z = (cut b 0 6 ++ cut b 8 (16 * sets.length)).set (at_ - 2) z := by
          rw [List.set_append_right _ _ (by omega), c0]
          congr 2
        rw [e0, e8, e6, e9, ← hH] at hH1
        refine crc_set4 (by rw [List.length_append]; omega) hX hz ?_ (leB_two_inj4 (tI_lt _) (tI_lt _) hH1)
        rw [hrd _ (at_ - 2) (by rw [List.getElem?_append_right (by omega), c0, cut, List.getElem?_take_of_lt (by omega), List.getElem?_drop]; congr 1; omega)]
        exact hne
end Go.Proofs.Ytbfogcckbhkciaa.Hand
namespace Go.Proofs.Ytbfogcckbhkciaa.Hand
open Go.RowKit Go.Maps Go.Proofs.YtbfogcckbhkciaaW.PrintWords Go.Proofs.YtbfogcckbhkciaaW.PrintLast
set_option linter.unusedVariables false
set_option linter.unusedSimpArgs false
def wt0 : Dev := Dev.of (List.replicate 160 0)
theorem wt0_cln : Cln wt0 20 (fun _ => zeros8) := zerosW_cln 20
section
variable {w : World} {p : Nat} {v : Value} {s f : Nat}
theorem wt_open (h : HasD w p v s f wt0) : Calls Try.prog 41 #[.pointer (some ⟨p, 0, none⟩), .int .i64 2, .int .i64 9] w fun e w' => ∃ (q : Nat), e = .returned (.tuple #[.pointer (some ⟨q, 0, none⟩), .int .i64 0]) ∧ HasL w' q p 2 9 1 ∧ w.heap.size ≤ q ∧ Below w.heap.size w w' := by
  have hl : wt0.B.length / 8 = 20 := by rw [wt0_cln.len]
  have := open4_good w p v s f wt0 2 9 h (by decide) (by rw [hl]; decide)
  rw [show recD wt0 2 9 = (0, []) from zerosW_rec (n := 20) (by decide) (by decide)] at this
  exact this
theorem wt_commit {q : Nat} {A : Option Addr} {c : Nat} {sets : List SetT} (h : HasD w p v s f wt0) (hl : HasL w q p 2 9 1) (hq : ¬ OwnD v s f q) (hs : SetK.C w A sets.length sets) (hw : ∀ s ∈ sets, WfSt s) (he : errW 20 2 9 1 sets = 0) :
    Calls Try.prog 42 #[.pointer (some ⟨q, 0, none⟩), .slice A sets.length c] w (fun e w' => e = .returned (.int .i64 0) ∧ HasD w' p v s f (wt0.steps (walM 2 1 sets)) ∧ HasL w' q p 2 9 2 ∧ Fr (fun b => OwnD v s f b ∨ b = q) w w') := by
  have h8 : wt0.B.length / 8 = 20 := by rw [wt0_cln.len]
  exact commit_good w q p v s f wt0 2 9 1 A c sets h hl hq (by decide) (by rw [h8]; decide) hs hw (by rw [h8]; exact he)
theorem wt_less {q : Nat} {A : Option Addr} {c : Nat} {sets : List SetT} {r : Int} (h : HasD w p v s f wt0) (hl : HasL w q p 2 9 1) (hs : SetK.C w A sets.length sets) (he : errW 20 2 9 1 sets = r) (hr : r ≠ 0) :
    Calls Try.prog 42 #[.pointer (some ⟨q, 0, none⟩), .slice A sets.length c] w (fun e w' => e = .returned (.int .i64 r) ∧ Below w.heap.size w w') := by
  have h8 : wt0.B.length / 8 = 20 := by rw [wt0_cln.len]
  subst he
  have := commit_bad w q p v s f wt0 2 9 1 A c sets h hl (by decide) (by rw [h8]; decide) hs (by rw [h8]; exact hr)
  rw [h8] at this
  exact this
end
theorem errW_vals (n a k nx : Nat) (sets : List SetT) : errW n a k nx sets = 0 ∨ errW n a k nx sets = 1 ∨ errW n a k nx sets = 40 := by
  unfold errW
  split
  · exact .inr (.inl rfl)
  · split
    · exact .inr (.inl rfl)
    · split
      · exact .inr (.inr rfl)
      · exact .inl rfl
set_option maxRecDepth 100000 in
theorem wtorn_long (A : Option Addr) (c : Nat) (sets : List SetT) (at_ t : Int) (w : World) (hs : SetK.C w A sets.length sets) (h : 20 < sets.length ∨ t = 0) : Calls Try.prog 12 #[.slice A sets.length c, .int .i64 at_, .int .u8 t] w fun e w' => e = .returned (.bool true) ∧ Below w.heap.size w w' := by
  have HN := Aside0.mk (show Calls Try.prog 27 #[.int .i64 20] w (NewDev w (List.replicate 160 0)) from new_calls w 20 (by omega))
  have hl := hs.2.1
  clear hs
  rcases (show 20 < sets.length ∨ (sets.length ≤ 20 ∧ t = 0) by omega) with h | ⟨h, rfl⟩
  all_goals
    go_enter Try.func12, Try.ntmps12
    go_wp2_with (first | (go_at_call 27; ((with_reducible refine HN.out.mono ?_); rintro e w1 ⟨p, v, s, f, rfl, hd1, hp1, hv1, hb1⟩; have HD1 := Aside0.mk (show HasD w1 p v s f wt0 from hd1); have HV := Aside0.mk hv1; have HB1 := Aside0.mk hb1; clear hd1 hp1 hv1 hb1)) | (go_at_call 36; ((with_reducible refine (wal_alive _).mono ?_); rintro e w3 ⟨rfl, hb⟩; have HB3 := Aside0.mk (bel_step HB1.out hb); clear hb)))
    go_ret
    exact ⟨rfl, HB3.out⟩
set_option maxRecDepth 100000 in
theorem wtorn_bad (A : Option Addr) (c : Nat) (sets : List SetT) (at_ t : Int) (w : World) (hs : SetK.C w A sets.length sets) (hw : ∀ s ∈ sets, WfSt s) (h : sets.length ≤ 20) (ht : ¬ t = 0) (hn : errW 20 2 9 1 sets ≠ 0 ∨ at_ < 2 ∨ 8 + 16 * (sets.length : Int) ≤ at_) : Calls Try.prog 12 #[.slice A sets.length c, .int .i64 at_, .int .u8 t] w fun e w' => e = .returned (.bool true) ∧ Below w.heap.size w w' := by
  have HN := Aside0.mk (show Calls Try.prog 27 #[.int .i64 20] w (NewDev w (List.replicate 160 0)) from new_calls w 20 (by omega))
  have HC := Aside0.mk hs
  have HW := Aside0.mk hw
  have HOWN := Aside0.mk (fun (W : World) (hW : Below w.heap.size w W) => own4_calls W A c sets (Kd.C_below hs hW) (by omega))
  have htb : (t == 0) = false := by simpa using ht
  clear hs hw ht
  rcases (show errW 20 2 9 1 sets = 1 ∨ errW 20 2 9 1 sets = 40 ∨ (errW 20 2 9 1 sets = 0 ∧ at_ < 2) ∨ (errW 20 2 9 1 sets = 0 ∧ 2 ≤ at_ ∧ 8 + 16 * (sets.length : Int) ≤ at_) by have := errW_vals 20 2 9 1 sets; omega) with he | he | ⟨he, z1⟩ | ⟨he, z1, z2⟩
  all_goals
    clear hn
    have HE := Aside0.mk he
    clear he
    go_enter Try.func12, Try.ntmps12
    go_wp2_with (first | (go_at_call 27; ((with_reducible refine HN.out.mono ?_); rintro e w1 ⟨p, v, s, f, rfl, hd1, hp1, hv1, hb1⟩; have HD1 := Aside0.mk (show HasD w1 p v s f wt0 from hd1); have HV := Aside0.mk hv1; have HB1 := Aside0.mk hb1; clear hd1 hp1 hv1 hb1)) | (go_at_call 41; ((with_reducible refine (wt_open HD1.out).mono ?_); rintro e w2 ⟨q, rfl, hl, hq, hb⟩; have HL2 := Aside0.mk hl; have HQ2 := Aside0.mk (not_own_ge HD1.out hq); have HQW := Aside0.mk (Nat.le_trans HB1.out.size hq); have HD2 := Aside0.mk (HD1.out.move hb); have HB2 := Aside0.mk (bel_step HB1.out hb); clear hl hq hb)) | (go_at_call 43; ((with_reducible refine (HOWN.out _ HB2.out).mono ?_); rintro e w6 ⟨v6, rfl, hr6, hb6⟩; obtain ⟨A6, c6, rfl, _, hC6⟩ := flat_reads hr6; have HC6 := Aside0.mk (show SetK.C w6 A6 sets.length sets from hC6); have HD6 := Aside0.mk (HD2.out.move hb6); have HL6 := Aside0.mk (HL2.out.below hb6); have HB6 := Aside0.mk (bel_step HB2.out hb6); clear hr6 hC6 hb6)) | (go_at_call 42; first | ((with_reducible refine (wt_less HD6.out HL6.out HC6.out HE.out (by decide)).mono ?_); rintro e w7 ⟨rfl, hb⟩; have HB7 := Aside0.mk (bel_step HB6.out hb); clear hb) | ((with_reducible refine (wt_commit HD6.out HL6.out HQ2.out HC6.out HW.out HE.out).mono ?_); rintro e w7 ⟨rfl, hd, hl, hf⟩; have HB7 := Aside0.mk (HB6.out.trans (hf.below _ HB6.out.size (fun b hb => hb.elim (fun h => HV.out b h) (fun h => h ▸ HQW.out)))); clear hd hl hf)) | (go_at_call 36; ((with_reducible refine (wal_alive _).mono ?_); rintro e w8 ⟨rfl, hb⟩; have HB8 := Aside0.mk (bel_step HB7.out hb); clear hb)))
    go_ret
    exact ⟨rfl, HB8.out⟩
/-- The device with a byte of the record turned. -/
theorem torn_dev {d : Dev} (hok : d.Ok) (hl : d.B.length = 160) {sets : List SetT} {q : Int} (h0 : 0 < sets.length) (h4 : sets.length ≤ 4) (hr : recD d 2 9 = (q, sets)) {a : Nat} {z : Int} (h2 : 2 ≤ a) (ha : a < 8 + 16 * sets.length) (hz : 0 ≤ z ∧ z < 256) (hne : z ≠ rd d.B (16 + a)) :
    recD (d.write (16 + a) [z]) 2 9 = (0, []) ∧ (d.write (16 + a) [z]).B.length = 160 := by
  have e : (d.write (16 + a) [z]).B = d.B.set (16 + a) z := by
    rw [List.set_eq_take_append_cons_drop, if_pos (by omega)]
    rfl
  rw [recD, hl] at hr
  refine ⟨?_, by rw [e, List.length_set, hl]⟩
  rw [recD, e, List.length_set, hl, cut_set, if_neg (by omega), show 16 + a - 8 * 2 = a by omega]
  refine rec_torn (cut_bys hok.bys _ _) h0 hr (by rw [cut_length (by omega)]; omega) h2 ha hz ?_
  rw [rd, cut, List.getD_eq_getElem?_getD, Int.toNat_natCast, List.getElem?_take_of_lt (by omega), List.getElem?_drop]
  rw [rd, List.getD_eq_getElem?_getD, show ((16 : Int) + (a : Int)).toNat = 8 * 2 + a by omega] at hne
  exact hne
theorem torn_read {w : World} {p : Nat} {v : Value} {s f : Nat} {d : Dev} (h : HasD w p v s f d) {a : Nat} (hl : d.B.length = 160) (ha : a < 80) :
    Calls Try.prog 31 #[.pointer (some ⟨p, 0, none⟩), .int .i64 (16 + (a : Int)), .int .i64 1] w fun e w' => ∃ g c, e = .returned (.tuple #[.slice (some ⟨g, 0, none⟩) 1 c, .int .i64 0]) ∧ w'.cell? ⟨g, 0, none⟩ = some (.int .u8 (rd d.B (16 + a))) ∧ Below w.heap.size w w' := by
  rw [show (16 : Int) + a = ((16 + a : Nat) : Int) by omega]
  refine (show Calls Try.prog _ #[.pointer (some ⟨p, 0, none⟩), .int .i64 ((16 + a : Nat) : Int), .int .i64 1] _ _ from read_good w p v s f d (16 + a) 1 h (by rw [insE_nat, if_pos (by omega)])).mono ?_
  rintro e w' ⟨u, rfl, hu, hb⟩
  have e1 : cut d.B (16 + a) 1 = [rd d.B (16 + a)] := by
    rw [cut, rd, List.getD_eq_getElem?_getD, show ((16 : Int) + (a : Int)).toNat = 16 + a by omega, List.getElem?_eq_getElem (by omega), List.drop_eq_getElem_cons (by omega)]
    rfl
  rw [e1] at hu
  obtain ⟨g, c, rfl, _, hr, _⟩ := row_form hu (by simp)
  obtain ⟨ad, e, hx⟩ := hr.2.2 (by simp)
  obtain rfl := Option.some.inj e
  have := hx 0 (by simp)
  exact ⟨g, c, rfl, this, hb⟩
theorem torn_write {w : World} {p : Nat} {v : Value} {s f : Nat} {d : Dev} (h : HasD w p v s f d) {a : Nat} {z : Int} (hl : d.B.length = 160) (ha : a < 80) (hz : 0 ≤ z ∧ z < 256) {g : Nat} (hg : ReadsInt w .u8 (some ⟨g, 0, none⟩) 1 [z]) :
    Calls Try.prog 23 #[.pointer (some ⟨p, 0, none⟩), .int .i64 (16 + (a : Int)), .slice (some ⟨g, 0, none⟩) 1 1] w fun e w' => e = .returned (.int .i64 0) ∧ HasD w' p v s f (d.write (16 + a) [z]) ∧ Fr (OwnD v s f) w w' := by
  rw [show (16 : Int) + a = ((16 + a : Nat) : Int) by omega]
  exact write_good w p v s f d (16 + a) (some ⟨g, 0, none⟩) 1 1 [z] rfl h hg (by simpa [Bys] using hz) (by rw [insE_nat, if_pos (by omega)])
theorem torn_recover {w : World} {p : Nat} {v : Value} {s f : Nat} {d : Dev} (h : HasD w p v s f d) (hl : d.B.length = 160) (hr : recD d 2 9 = (0, [])) :
    Calls Try.prog 37 #[.pointer (some ⟨p, 0, none⟩), .int .i64 2, .int .i64 9] w fun e w' => e = .returned (.tuple #[.int .i64 0, .int .i64 0]) ∧ HasD w' p v s f d ∧ Fr (OwnD v s f) w w' := by
  refine (recover4_good w p v s f d 2 9 h (by decide) (by rw [hl]; decide)).mono (fun e w' he => ?_)
  obtain ⟨e1, e2, e3⟩ := he
  rw [hr] at e1
  rw [recover_none hr (by decide)] at e2
  exact ⟨e1, e2, e3⟩
set_option maxRecDepth 100000 in
set_option maxHeartbeats 1000000 in
theorem wtorn_good (A : Option Addr) (c : Nat) (sets : List SetT) (a : Nat) (t : Int) (w : World) (hs : SetK.C w A sets.length sets) (hw : ∀ s ∈ sets, WfSt s) (ht0 : ¬ t = 0) (ht1 : 0 ≤ t ∧ t < 256) (he : errW 20 2 9 1 sets = 0) (h2 : 2 ≤ a) (ha : a < 8 + 16 * sets.length) :
    Calls Try.prog 12 #[.slice A sets.length c, .int .i64 (a : Int), .int .u8 t] w fun e w' => e = .returned (.bool true) ∧ Below w.heap.size w w' := by
  have HN := Aside0.mk (show Calls Try.prog 27 #[.int .i64 20] w (NewDev w (List.replicate 160 0)) from new_calls w 20 (by omega))
  obtain ⟨_, h0, h4, _⟩ := errW_ok he
  have h4 : sets.length ≤ 4 := by omega
  have HOWN := Aside0.mk (fun (W : World) (hW : Below w.heap.size w W) => own4_calls W A c sets (Kd.C_below hs hW) (by omega))
  have htb : (t == 0) = false := by simpa using ht0
  have HW := Aside0.mk hw
  have HE := Aside0.mk he
  obtain ⟨hrec, hcln⟩ := wal_rec wt0_cln (by decide) (by decide) (by decide) he hw (by decide)
  obtain ⟨D, hD⟩ : ∃ D, D = wt0.steps (walM 2 1 sets) := ⟨_, rfl⟩
  rw [← hD] at hrec hcln
  have hDl : D.B.length = 160 := hcln.len
  obtain ⟨x, hx⟩ : ∃ x, x = rd D.B (16 + a) := ⟨_, rfl⟩
  by_cases hok : D.Ok
  rotate_left
  · exfalso
    refine hok ?_
    rw [hD]
    refine (Dev.steps_ok (Dev.Ok.of ?_ ?_ ?_) (walS_okm (headL_bys _ _ _) (bodyL_bys _))).1
    all_goals simp [Bys]
  obtain ⟨hrd0, hrd1⟩ : 0 ≤ x ∧ x < 256 := by rw [hx]; exact rd_bys hok.bys _
  obtain ⟨z, hz⟩ : ∃ z, z = bits .xor .u8 x t := ⟨_, rfl⟩
  have hz2 : z = ((x.toNat ^^^ t.toNat : Nat) : Int) := by rw [hz, u8_xor _ _ hrd0 hrd1 ht1.1 ht1.2]
  have hzr : 0 ≤ z ∧ z < 256 := by
    have : x.toNat ^^^ t.toNat < 2 ^ 8 := Nat.xor_lt_two_pow (by omega) (by omega)
    omega
  have hzn : z ≠ x := by
    intro he
    have h1 : x.toNat ^^^ t.toNat = x.toNat := by omega
    have h2 : x.toNat ^^^ (x.toNat ^^^ t.toNat) = x.toNat ^^^ x.toNat := by rw [h1]
    rw [← Nat.xor_assoc, Nat.xor_self, Nat.zero_xor] at h2
    omega
  have HT := Aside0.mk (torn_dev hok hDl h0 h4 hrec h2 ha hzr (by rw [hx] at hzn; exact hzn))
  have HX := Aside0.mk hx
  have HDD := Aside0.mk hD
  have HDL := Aside0.mk hDl
  have HZR := Aside0.mk hzr
  have ha' : a < 80 := by omega
  have hz' := hz.symm
  clear hs hw ht0 he hrec hcln hDl hx hD hz hz2 hzn hok h0
  go_enter Try.func12, Try.ntmps12
  go_wp2_with (first | (go_at_call 27; ((with_reducible refine HN.out.mono ?_); rintro e w1 ⟨p, v, s, f, rfl, hd1, hp1, hv1, hb1⟩; have HD1 := Aside0.mk (show HasD w1 p v s f wt0 from hd1); have HV := Aside0.mk hv1; have HB1 := Aside0.mk hb1; clear hd1 hp1 hv1 hb1)) | (go_at_call 41; ((with_reducible refine (wt_open HD1.out).mono ?_); rintro e w2 ⟨q, rfl, hl, hq, hb⟩; have HL2 := Aside0.mk hl; have HQ2 := Aside0.mk (not_own_ge HD1.out hq); have HQW := Aside0.mk (Nat.le_trans HB1.out.size hq); have HD2 := Aside0.mk (HD1.out.move hb); have HB2 := Aside0.mk (bel_step HB1.out hb); clear hl hq hb)) | (go_at_call 43; ((with_reducible refine (HOWN.out _ HB2.out).mono ?_); rintro e w6 ⟨v6, rfl, hr6, hb6⟩; obtain ⟨A6, c6, rfl, _, hC6⟩ := flat_reads hr6; have HC6 := Aside0.mk (show SetK.C w6 A6 sets.length sets from hC6); have HD6 := Aside0.mk (HD2.out.move hb6); have HL6 := Aside0.mk (HL2.out.below hb6); have HB6 := Aside0.mk (bel_step HB2.out hb6); clear hr6 hC6 hb6)) | (go_at_call 42; ((with_reducible refine (wt_commit HD6.out HL6.out HQ2.out HC6.out HW.out HE.out).mono ?_); rw [← HDD.out]; rintro e w7 ⟨rfl, hd, hl, hf⟩; have HD7 := Aside0.mk hd; have HB7 := Aside0.mk (HB6.out.trans (hf.below _ HB6.out.size (fun b hb => hb.elim (fun h => HV.out b h) (fun h => h ▸ HQW.out)))); clear hd hl hf)) | (go_at_call 31; ((with_reducible refine (torn_read HD7.out HDL.out ha').mono ?_); rw [← HX.out]; rintro e w8 ⟨g8, c8, rfl, hc8, hb⟩; have HD8 := Aside0.mk (HD7.out.move hb); have HB8 := Aside0.mk (bel_step HB7.out hb); clear hb)) | (go_at_call 23; ((with_reducible refine (torn_write (z := z) (HD8.out.move (below_alloc (Below.refl _ _) _)) HDL.out ha' HZR.out (lit_reads (l := [z]) (by simp))).mono ?_); rintro e w9 ⟨rfl, hd, hf⟩; have HD9 := Aside0.mk hd; have HB9 := Aside0.mk ((below_alloc HB8.out _).trans (hf.below _ (below_alloc HB8.out _).size (fun b hb => HV.out b hb))); clear hd hf)) | (go_at_call 22; first | ((with_reducible refine (bytes_calls _ p v s f _ HDB.out).mono ?_); rintro e wC ⟨uC, rfl, hu, hb⟩; have hcw := conv_own hu; have HBC := Aside0.mk (bel_step HBB.out hb); clear hu hb) | ((with_reducible refine (bytes_calls _ p v s f _ HD9.out).mono ?_); rintro e wA ⟨uA, rfl, hu, hb⟩; have hcv := conv_own hu; have HBA := Aside0.mk (bel_step HB9.out hb); have HDA := Aside0.mk (HD9.out.move hb); clear hu hb)) | (go_at_call 37; ((with_reducible refine (torn_recover HDA.out HT.out.2 HT.out.1).mono ?_); rintro e wR ⟨rfl, hd, hf⟩; have HDR := Aside0.mk hd; have HBR := Aside0.mk (HBA.out.trans (hf.below _ HBA.out.size (fun b hb => HV.out b hb))); clear hd hf)) | (go_at_call 36; ((with_reducible refine (wal_alive _).mono ?_); rintro e wB ⟨rfl, hb⟩; have HBB := Aside0.mk (bel_step HBR.out hb); have HDB := Aside0.mk (HDR.out.move hb); clear hb)))
  go_ret
  exact ⟨by simp, HBC.out⟩
theorem walTorn_walk (A : Option Addr) (c : Nat) (sets : List SetT) (at_ t : Int) (w : World) (hs : SetK.C w A sets.length sets) (hw : ∀ s ∈ sets, WfSt s) (_h : (Lit.int .i64 at_).wf = true) (ht : (Lit.int .u8 t).wf = true) : Calls Try.prog 12 #[.slice A sets.length c, .int .i64 at_, .int .u8 t] w fun e w' => e = .returned (.bool true) ∧ Below w.heap.size w w' := by
  by_cases h1 : 20 < sets.length ∨ t = 0
  · exact wtorn_long A c sets at_ t w hs h1
  · by_cases h2 : errW 20 2 9 1 sets ≠ 0 ∨ at_ < 2 ∨ 8 + 16 * (sets.length : Int) ≤ at_
    · exact wtorn_bad A c sets at_ t w hs hw (by omega) (by omega) h2
    · obtain ⟨a, rfl⟩ := Int.eq_ofNat_of_zero_le (show 0 ≤ at_ by omega)
      exact wtorn_good A c sets a t w hs hw (by omega) (wf_u8 ht) (by omega) (by omega) (by omega)
end Go.Proofs.Ytbfogcckbhkciaa.Hand
