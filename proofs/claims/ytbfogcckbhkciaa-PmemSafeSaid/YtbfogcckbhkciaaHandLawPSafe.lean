/- PmemSafe: the walk. -/
import Derived.Test.YtbfogcckbhkciaaHandPmLaw
import Derived.Test.YtbfogcckbhkciaaWLast
namespace Go.Proofs.Ytbfogcckbhkciaa.Hand
open Go.RowKit Go.Maps Go.Proofs.YtbfogcckbhkciaaW.PrintWords Go.Proofs.YtbfogcckbhkciaaW.PrintLast
set_option linter.unusedVariables false
set_option linter.unusedSimpArgs false
theorem word_get (B : List Int) (i : Nat) : (word B (i / 8))[i % 8]? = B[i]? := by
  rw [word, cut, List.getElem?_take_of_lt (Nat.mod_lt _ (by decide)), List.getElem?_drop]
  congr 1
  omega
theorem cut_words {B C : List Int} {a n : Nat} (h : ∀ k, hitB a n k = true → word B k = word C k) : cut B a n = cut C a n := by
  apply List.ext_getElem?
  intro i
  simp only [cut]
  by_cases hi : i < n
  · rw [List.getElem?_take_of_lt hi, List.getElem?_take_of_lt hi, List.getElem?_drop, List.getElem?_drop, ← word_get B, ← word_get C, h _ (by simp only [hitB, decide_eq_true_eq]; omega)]
  · rw [List.getElem?_take_eq_none (by omega), List.getElem?_take_eq_none (by omega)]
theorem crash_word {d : Dev} (h : d.Ok) (keep : List Int) {k : Nat} (hk : k < d.B.length / 8) : word (d.crash keep).B k = d.lossW keep k :=
  word_mapW (fun j hj => h.lossW keep hj) hk
theorem crash_all {d : Dev} (h : d.Ok) : (d.crash (looseM d)).B = d.B := by
  show mapW _ 0 _ = _
  refine (mapW_congr (g' := word d.B) (fun j _ hj => ?_)).trans (mapW_self h.len)
  rw [Dev.lossW]
  cases hs : d.S j with
  | none => rfl
  | some c =>
    simp only
    rw [if_pos]
    rw [looseM_mem h, safeF_nat, hs]
    rfl
theorem loose_crash (d : Dev) (keep : List Int) : looseM (d.crash keep) = [] := by
  rw [looseM, List.filter_eq_nil_iff.2 (fun k _ => by simp [Dev.crash])]
  rfl
/-- What is written, flushed, fenced. -/
def Dev.sure (d : Dev) (a : Nat) (l : List Int) : Dev := ((d.write a l).flush a l.length).fence
theorem sure_safe {d : Dev} {a : Nat} {l : List Int} {k : Nat} (hk : hitB a l.length k = true) : (d.sure a l).S k = none := by
  simp only [Dev.sure, Dev.fence, Dev.flush, Dev.write, hk]
  simp
theorem write_cut {d : Dev} {a : Nat} {l : List Int} (h : a + l.length ≤ d.B.length) : cut (d.write a l).B a l.length = l := by
  simp only [Dev.write, cut]
  rw [List.drop_append_of_le_length (by rw [List.length_take]; omega), List.drop_eq_nil_of_le (by rw [List.length_take]; omega), List.nil_append, List.take_append_of_le_length (by omega)]
  simp
theorem sure_read {d : Dev} {a : Nat} {l keep : List Int} (h : d.Ok) (hl : Bys l) (hin : a + l.length ≤ d.B.length) : cut ((d.sure a l).crash keep).B a l.length = l := by
  have h3 : (d.sure a l).Ok := ((h.write hl hin).flush a l.length).fence
  have hB : (d.sure a l).B = (d.write a l).B := rfl
  have hlen : (d.sure a l).B.length = d.B.length := by rw [hB, Dev.write]; exact splice_length hin
  have h8 := h.len
  refine (cut_words (C := (d.sure a l).B) (fun k hk => ?_)).trans (write_cut hin)
  have hk2 := hk
  simp only [hitB, decide_eq_true_eq] at hk2
  rw [crash_word h3 keep (by omega), Dev.lossW, sure_safe hk]
theorem row_off {w : World} {q : Nat} {u : Value} {s f : Nat} {d : Dev} {A : Option Addr} {n : Nat} (h : HasD w q u s f d) (hG : 0 < n → ∀ ad, A = some ad → w.heap.size ≤ ad.block) : 0 < n → ∀ ad, A = some ad → ¬ some ad.block = u.ownBlock :=
  fun h0 ad e hb => absurd (h.own_lt (Or.inl hb)) (Nat.not_lt.2 (hG h0 ad e))
theorem own_from {v : Value} {s f n m : Nat} (h : ∀ b, OwnD v s f b → n ≤ b) (hm : m ≤ n) : ∀ b, some b = v.ownBlock → m ≤ b := fun b hb => Nat.le_trans hm (h b (Or.inl hb))
set_option maxRecDepth 100000 in
set_option maxHeartbeats 2000000 in
theorem pmemSafe_long (A : Option Addr) (c : Nat) (os : List OpP) (x : OpP) (K : Option Addr) (kc : Nat) (ks : List Int) (w : World) (ho : PoK.C w A os.length os) (hw : ∀ o ∈ os, WfPo w o) (hx : WfPo w x) (hk : ReadsInt w .i64 K ks.length ks) (hb : 100 < ks.length ∨ 80 < x.bs.length) :
    Calls Try.prog 6 #[.slice A os.length c, .agg #[.int .i64 x.z, .int .i64 x.at_, .int .i64 x.long, .slice x.A1 x.bs.length x.c1, .slice x.A2 x.ks.length x.c2], .slice K ks.length kc] w fun e w' => e = .returned (.bool true) ∧ Below w.heap.size w w' := by
  have HM := Aside0.mk (show Calls Try.prog 20 #[.int .i64 10, .slice A os.length c] (w.alloc (.cells #[.int .i64 x.z, .int .i64 x.at_, .int .i64 x.long, .slice x.A1 x.bs.length x.c1, .slice x.A2 x.ks.length x.c2] 26)) (MadeE (boxed w x) (runD dev10 os)) from made_e (boxed w x) A c os (Kd.C_below ho (boxed_below w x)) (wfs_below hw (boxed_below w x))); obtain ⟨hok, hln⟩ := runD_ok hw; generalize runD dev10 os = d at HM hok hln; have HL := Aside0.mk hln; have HX := Aside0.mk hx; have hbl : x.bs.length ≤ 9223372036854775807 := hx.rb.2.1; have HQ := Aside0.mk (boxed_at w x)
  have hkl : ks.length ≤ 9223372036854775807 := hk.2.1
  clear ho hw hok hln hx hk
  rcases hb with hb | hb
  · go_enter Try.func6, Try.ntmps6
    go_wp2_with (first | (go_at_call 20; ((with_reducible refine HM.out.mono ?_); intro e w1 hM; rcases hM with ⟨rfl, hb⟩ | ⟨p, v, s, f, rfl, hd1, hp1, hv1, hb1⟩; (have HN1 := Aside0.mk hb; obtain ⟨b1, b3⟩ := (HQ.out.below HN1.out).at_; clear hb); rotate_left; (have HD1 := Aside0.mk hd1; have HB1 := Aside0.mk hb1; have HV := Aside0.mk hv1; obtain ⟨b1, b3⟩ := (HQ.out.below HB1.out).at_; clear hd1 hp1 hv1 hb1); rotate_left)) | (go_at_call 21; ((with_reducible refine (pm_alive _).mono ?_); rintro e wA ⟨rfl, hb⟩; have HBA := Aside0.mk (bel_step HN1.out hb); clear hb)) | (go_at_call 21; ((with_reducible refine (pm_alive _).mono ?_); rintro e wA ⟨rfl, hb⟩; have HBA := Aside0.mk (bel_step HB1.out hb); clear hb)))
    all_goals
      go_ret
      exact ⟨rfl, boxed_end HBA.out⟩
  · have h1 : decide (80 < (x.bs.length : Int)) = true := by simp; omega
    by_cases hb2 : 100 < ks.length
    · go_enter Try.func6, Try.ntmps6
      go_wp2_with (first | (go_at_call 20; ((with_reducible refine HM.out.mono ?_); intro e w1 hM; rcases hM with ⟨rfl, hb⟩ | ⟨p, v, s, f, rfl, hd1, hp1, hv1, hb1⟩; (have HN1 := Aside0.mk hb; obtain ⟨b1, b3⟩ := (HQ.out.below HN1.out).at_; clear hb); rotate_left; (have HD1 := Aside0.mk hd1; have HB1 := Aside0.mk hb1; have HV := Aside0.mk hv1; obtain ⟨b1, b3⟩ := (HQ.out.below HB1.out).at_; clear hd1 hp1 hv1 hb1); rotate_left)) | (go_at_call 21; ((with_reducible refine (pm_alive _).mono ?_); rintro e wA ⟨rfl, hb⟩; have HBA := Aside0.mk (bel_step HN1.out hb); clear hb)) | (go_at_call 21; ((with_reducible refine (pm_alive _).mono ?_); rintro e wA ⟨rfl, hb⟩; have HBA := Aside0.mk (bel_step HB1.out hb); clear hb)))
      all_goals
        go_ret
        exact ⟨rfl, boxed_end HBA.out⟩
    · go_enter Try.func6, Try.ntmps6
      go_wp2_with (first | (go_at_call 20; ((with_reducible refine HM.out.mono ?_); intro e w1 hM; rcases hM with ⟨rfl, hb⟩ | ⟨p, v, s, f, rfl, hd1, hp1, hv1, hb1⟩; (have HN1 := Aside0.mk hb; obtain ⟨b1, b3⟩ := (HQ.out.below HN1.out).at_; clear hb); rotate_left; (have HD1 := Aside0.mk hd1; have HB1 := Aside0.mk hb1; have HV := Aside0.mk hv1; obtain ⟨b1, b3⟩ := (HQ.out.below HB1.out).at_; clear hd1 hp1 hv1 hb1); rotate_left)) | (go_at_call 21; ((with_reducible refine (pm_alive _).mono ?_); rintro e wA ⟨rfl, hb⟩; have HBA := Aside0.mk (bel_step HN1.out hb); clear hb)) | (go_at_call 21; ((with_reducible refine (pm_alive _).mono ?_); rintro e wA ⟨rfl, hb⟩; have HBA := Aside0.mk (bel_step HB1.out hb); clear hb)))
      all_goals
        go_ret
        exact ⟨rfl, boxed_end HBA.out⟩
set_option maxRecDepth 100000 in
set_option maxHeartbeats 2000000 in
theorem pmemSafe_bad (A : Option Addr) (c : Nat) (os : List OpP) (x : OpP) (K : Option Addr) (kc : Nat) (ks : List Int) (w : World) (ho : PoK.C w A os.length os) (hw : ∀ o ∈ os, WfPo w o) (hx : WfPo w x) (hk : ReadsInt w .i64 K ks.length ks) (hb1 : ¬ 100 < ks.length) (hb2 : ¬ 80 < x.bs.length) (he : insE 80 x.at_ x.bs.length ≠ 0) :
    Calls Try.prog 6 #[.slice A os.length c, .agg #[.int .i64 x.z, .int .i64 x.at_, .int .i64 x.long, .slice x.A1 x.bs.length x.c1, .slice x.A2 x.ks.length x.c2], .slice K ks.length kc] w fun e w' => e = .returned (.bool true) ∧ Below w.heap.size w w' := by
  have HM := Aside0.mk (show Calls Try.prog 20 #[.int .i64 10, .slice A os.length c] (w.alloc (.cells #[.int .i64 x.z, .int .i64 x.at_, .int .i64 x.long, .slice x.A1 x.bs.length x.c1, .slice x.A2 x.ks.length x.c2] 26)) (MadeE (boxed w x) (runD dev10 os)) from made_e (boxed w x) A c os (Kd.C_below ho (boxed_below w x)) (wfs_below hw (boxed_below w x))); obtain ⟨hok, hln⟩ := runD_ok hw; generalize runD dev10 os = d at HM hok hln; have HL := Aside0.mk hln; have HX := Aside0.mk hx; have hbl : x.bs.length ≤ 9223372036854775807 := hx.rb.2.1; have HQ := Aside0.mk (boxed_at w x)
  obtain ⟨er, her⟩ : ∃ er, er = insE d.B.length x.at_ x.bs.length := ⟨_, rfl⟩
  have HE := Aside0.mk her.symm
  have hne : (er != 0) = true := by rw [her, hln]; simpa using he
  have HEN := Aside0.mk (show insE d.B.length x.at_ x.bs.length ≠ 0 by rw [hln]; exact he)
  have h1 : decide (80 < (x.bs.length : Int)) = false := by simp; omega
  have h2 : decide (100 < (ks.length : Int)) = false := by simp; omega
  clear ho hw hok hln hx he her hk
  go_enter Try.func6, Try.ntmps6
  go_wp2_with (first | (go_at_call 20; ((with_reducible refine HM.out.mono ?_); intro e w1 hM; rcases hM with ⟨rfl, hb⟩ | ⟨p, v, s, f, rfl, hd1, hp1, hv1, hb1⟩; (have HN1 := Aside0.mk hb; obtain ⟨b1, b3⟩ := (HQ.out.below HN1.out).at_; clear hb); rotate_left; (have HD1 := Aside0.mk hd1; have HB1 := Aside0.mk hb1; have HV := Aside0.mk hv1; obtain ⟨b1, b3⟩ := (HQ.out.below HB1.out).at_; clear hd1 hp1 hv1 hb1); rotate_left)) | (go_at_call 21; ((with_reducible refine (pm_alive _).mono ?_); rintro e wA ⟨rfl, hb⟩; have HBA := Aside0.mk (bel_step HN1.out hb); clear hb)) | (go_at_call 23; ((with_reducible refine (write_bad _ p v s f _ x.at_ x.A1 x.bs.length x.c1 HD1.out hbl HEN.out).mono ?_); rw [HE.out]; rintro e w3 ⟨rfl, hb⟩; have HB3 := Aside0.mk (bel_step HB1.out hb); clear hb)) | (go_at_call 21; ((with_reducible refine (pm_alive _).mono ?_); rintro e wA ⟨rfl, hb⟩; have HBA := Aside0.mk (bel_step HB3.out hb); clear hb)))
  all_goals
    go_ret
    exact ⟨rfl, boxed_end HBA.out⟩
set_option maxRecDepth 100000 in
set_option maxHeartbeats 2000000 in
theorem pmemSafe_good (A : Option Addr) (c : Nat) (os : List OpP) (x : OpP) (K : Option Addr) (kc : Nat) (ks : List Int) (w : World) (ho : PoK.C w A os.length os) (hw : ∀ o ∈ os, WfPo w o) (hx : WfPo w x) (hk : ReadsInt w .i64 K ks.length ks) (hb1 : ¬ 100 < ks.length) (hb2 : ¬ 80 < x.bs.length) (he : insE 80 x.at_ x.bs.length = 0) :
    Calls Try.prog 6 #[.slice A os.length c, .agg #[.int .i64 x.z, .int .i64 x.at_, .int .i64 x.long, .slice x.A1 x.bs.length x.c1, .slice x.A2 x.ks.length x.c2], .slice K ks.length kc] w fun e w' => e = .returned (.bool true) ∧ Below w.heap.size w w' := by
  have HM := Aside0.mk (show Calls Try.prog 20 #[.int .i64 10, .slice A os.length c] (w.alloc (.cells #[.int .i64 x.z, .int .i64 x.at_, .int .i64 x.long, .slice x.A1 x.bs.length x.c1, .slice x.A2 x.ks.length x.c2] 26)) (MadeE (boxed w x) (runD dev10 os)) from made_e (boxed w x) A c os (Kd.C_below ho (boxed_below w x)) (wfs_below hw (boxed_below w x))); obtain ⟨hok, hln⟩ := runD_ok hw; generalize runD dev10 os = d at HM hok hln; have HL := Aside0.mk hln; have HX := Aside0.mk hx; have hbl : x.bs.length ≤ 9223372036854775807 := hx.rb.2.1; have HQ := Aside0.mk (boxed_at w x)
  have HKR := Aside0.mk hk
  obtain ⟨z, a, long, A1, c1, bs, A2, c2, k2⟩ := x
  obtain ⟨_, h2, h3⟩ := ins_ok he
  simp only at h2 h3 he hbl hb2
  obtain ⟨a, rfl⟩ := Int.eq_ofNat_of_zero_le h2
  have HE := Aside0.mk (show insE d.B.length (a : Int) bs.length = 0 by rw [hln]; exact he)
  have hlw : (d.write a bs).B.length = 80 := by rw [Dev.write]; exact (splice_length (by omega)).trans hln
  have h3ok : (d.sure a bs).Ok := ((hok.write hx.by_ (by simp only; omega)).flush a bs.length).fence
  have HE2 := Aside0.mk (show insE (d.write a bs).B.length (a : Int) bs.length = 0 by rw [hlw]; exact he)
  have HE3 := Aside0.mk (show insE ((d.sure a bs).crash ks).B.length (a : Int) bs.length = 0 by rw [crash_length h3ok, show (d.sure a bs).B.length = 80 from hlw]; exact he)
  have HCR := Aside0.mk (crash_all h3ok)
  have HRD := Aside0.mk (sure_read (keep := ks) hok hx.by_ (show a + bs.length ≤ d.B.length by omega))
  have HLO := Aside0.mk (loose_crash (d.sure a bs) ks)
  have l1 : decide (80 < (bs.length : Int)) = false := by simp; omega
  have l2 : decide (100 < (ks.length : Int)) = false := by simp; omega
  clear ho hw hok hln hx he hk hlw h3ok
  go_enter Try.func6, Try.ntmps6
  go_wp2_with (first | (go_at_call 20; ((with_reducible refine HM.out.mono ?_); intro e w1 hM; rcases hM with ⟨rfl, hb⟩ | ⟨p, v, s, f, rfl, hd1, hp1, hv1, hb1⟩; (have HN1 := Aside0.mk hb; obtain ⟨b1, b3⟩ := (HQ.out.below HN1.out).at_; clear hb); rotate_left; (have HD1 := Aside0.mk hd1; have HB1 := Aside0.mk hb1; have HV := Aside0.mk hv1; obtain ⟨b1, b3⟩ := (HQ.out.below HB1.out).at_; clear hd1 hp1 hv1 hb1); rotate_left)) | (go_at_call 21; ((with_reducible refine (pm_alive _).mono ?_); rintro e wA ⟨rfl, hb⟩; have HBA := Aside0.mk (bel_step HN1.out hb); clear hb)) | (go_at_call 23; ((with_reducible refine (write_good _ p v s f d a A1 bs.length c1 bs rfl HD1.out (HX.out.rb.below (boxed_end HB1.out)) HX.out.by_ HE.out).mono ?_); rintro e w2 ⟨rfl, hd, hf⟩; have HD2 := Aside0.mk hd; have HB2 := Aside0.mk (HB1.out.trans (hf.below _ HB1.out.size (fun b hb => HV.out b hb))); obtain ⟨b1, b3⟩ := (HQ.out.below HB2.out).at_; clear hd hf)) | (go_at_call 25; ((with_reducible refine (flush_calls _ p v s f _ a bs.length HD2.out HE2.out).mono ?_); rintro e w3 ⟨rfl, hd, hf⟩; have HD3 := Aside0.mk hd; have HB3 := Aside0.mk (HB2.out.trans (hf.below _ HB2.out.size (fun b hb => HV.out b hb))); obtain ⟨b1, b3⟩ := (HQ.out.below HB3.out).at_; clear hd hf)) | (go_at_call 24; ((with_reducible refine (fence_calls _ p v s f _ HD3.out).mono ?_); rintro e w4 ⟨rfl, hd, hf⟩; have HD4 := Aside0.mk (show HasD w4 p v s f (d.sure a bs) from hd); have HB4 := Aside0.mk (HB3.out.trans (hf.below _ HB3.out.size (fun b hb => HV.out b hb))); obtain ⟨b1, b3⟩ := (HQ.out.below HB4.out).at_; clear hd hf)) | (go_at_call 29; ((with_reducible refine (copy_calls _ p v s f _ HD4.out).mono ?_); rintro e w5 ⟨q, u, s', f', rfl, hd5, hq5, ho5, hb5⟩; have HC5 := Aside0.mk hd5; have HO5 := Aside0.mk ho5; have HK5 := Aside0.mk hb5; clear hd5 hq5 ho5 hb5)) | (go_at_call 22; (first | ((with_reducible refine (bytes_calls _ q u s' f' _ HC8.out).mono ?_); rintro e w9 ⟨u9, rfl, hu9, hb9⟩; rw [HCR.out] at hu9; have hcv := conv_own hu9; have HK9 := Aside0.mk (bel_step HK8.out hb9); have HB9 := Aside0.mk (bel_step HB4.out HK9.out); have HD9 := Aside0.mk (HD4.out.move HK9.out); clear hu9 hb9) | ((with_reducible refine (bytes_calls _ q u s' f' _ HC5.out).mono ?_); rintro e w6 ⟨u6, rfl, hu6, hb6⟩; have hcv := conv_own hu6; have HC6 := Aside0.mk (HC5.out.move hb6); have HK6 := Aside0.mk (bel_step HK5.out hb6); clear hu6 hb6))) | (go_at_call 26; ((with_reducible refine (loose_calls _ q u s' f' _ HC6.out).mono ?_); rintro e w7 ⟨u7, rfl, hu7, hb7⟩; obtain ⟨A7, c7, rfl, hR7, hG7⟩ := ints_own hu7; have HR7 := Aside0.mk hR7; have HG7 := Aside0.mk hG7; have HC7 := Aside0.mk (HC6.out.move hb7); have HK7 := Aside0.mk (bel_step HK6.out hb7); clear hu7 hb7 hR7 hG7)) | (go_at_call 30; (first | ((with_reducible refine (crash_calls _ p v s f _ K kc ks HD9.out (HKR.out.below (boxed_end HB9.out)) (reads_off HKR.out (own_from HV.out (boxed_below w _).size))).mono ?_); rintro e wX ⟨rfl, hd, hf⟩; have HDX := Aside0.mk hd; have HBX := Aside0.mk (HB9.out.trans (hf.below _ HB9.out.size (fun b hb => HV.out b hb))); obtain ⟨b1, b3⟩ := (HQ.out.below HBX.out).at_; clear hd hf) | ((with_reducible refine (crash_calls _ q u s' f' _ A7 c7 _ HC7.out HR7.out (row_off HC6.out HG7.out)).mono ?_); rintro e w8 ⟨rfl, hd, hf⟩; have HC8 := Aside0.mk hd; have HK8 := Aside0.mk (HK7.out.trans (hf.below _ HK7.out.size (fun b hb => HO5.out b hb))); clear hd hf))) | (go_at_call 31; ((with_reducible refine (read_good _ p v s f _ a bs.length HDX.out HE3.out).mono ?_); rintro e wY ⟨uY, rfl, hu, hb⟩; rw [HRD.out] at hu; have HUY := Aside0.mk hu; have HDY := Aside0.mk (HDX.out.move hb); have HBY := Aside0.mk (bel_step HBX.out hb); obtain ⟨b1, b3⟩ := (HQ.out.below HBY.out).at_; clear hu hb)) | (go_at_call 21; ((with_reducible refine (pm_alive _).mono ?_); rintro e wZ ⟨rfl, hb⟩; have HBZ := Aside0.mk (bel_step HBY.out hb); have HDZ := Aside0.mk (HDY.out.move hb); obtain ⟨b1, b3⟩ := (HQ.out.below HBZ.out).at_; have hcx := conv_reads (c := c1) (HX.out.rb.below (boxed_end HBZ.out)); have hcv := conv_own (Kd.R_below HUY.out hb); clear hb)) | (go_at_call 26; ((with_reducible refine (loose_calls _ p v s f _ HDZ.out).mono ?_); rintro e wO ⟨uO, rfl, hu, hb⟩; rw [HLO.out] at hu; obtain ⟨AO, cO, rfl, _, _⟩ := ints_own hu; have HBO := Aside0.mk (bel_step HBZ.out hb); clear hu hb)))
  · go_ret
    exact ⟨rfl, boxed_end HBA.out⟩
  · go_ret
    exact ⟨rfl, boxed_end HBO.out⟩
theorem pmemSafe_walk (A : Option Addr) (c : Nat) (os : List OpP) (x : OpP) (K : Option Addr) (kc : Nat) (ks : List Int) (w : World) (ho : PoK.C w A os.length os) (hw : ∀ o ∈ os, WfPo w o) (hx : WfPo w x) (hk : ReadsInt w .i64 K ks.length ks) :
    Calls Try.prog 6 #[.slice A os.length c, .agg (encPo x).toArray, .slice K ks.length kc] w fun e w' => e = .returned (.bool true) ∧ Below w.heap.size w w' := by
  by_cases hb : 100 < ks.length ∨ 80 < x.bs.length
  · exact pmemSafe_long A c os x K kc ks w ho hw hx hk hb
  · by_cases he : insE 80 x.at_ x.bs.length = 0
    · exact pmemSafe_good A c os x K kc ks w ho hw hx hk (by omega) (by omega) he
    · exact pmemSafe_bad A c os x K kc ks w ho hw hx hk (by omega) (by omega) he
end Go.Proofs.Ytbfogcckbhkciaa.Hand
