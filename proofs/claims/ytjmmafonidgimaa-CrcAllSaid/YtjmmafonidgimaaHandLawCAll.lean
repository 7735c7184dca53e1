/- CrcAll, walked. -/
import Derived.Test.YtjmmafonidgimaaHandCrcAlive
import Derived.Deep.RegionHeld
namespace Go.Proofs.Ytjmmafonidgimaa.Hand
open Go.RowKit Go.Proofs.YtjmmafonidgimaaW.PrintWords

theorem leB_bys (n : Int) (k : Nat) : Bys (leB n k) := by
  induction k with
  | zero => intro x hx; cases hx
  | succ k ih =>
    intro x hx
    rw [leB, List.mem_append, List.mem_singleton] at hx
    rcases hx with hx | rfl
    · exact ih x hx
    · omega
theorem seal_bys {l : List Int} (h : Bys l) : Bys (sealL l) := by
  intro x hx
  rw [sealL, List.mem_append] at hx
  rcases hx with hx | hx
  · exact h x hx
  · exact leB_bys _ _ x hx
theorem str_eq {a b : List Int} (h : (strOfNums a).toList = (strOfNums b).toList) : strOfNums a = strOfNums b := by
  rw [Lib.strOfNums_toList, Lib.strOfNums_toList] at h
  show ByteArray.mk (Lib.bytesOf a).toArray = ByteArray.mk (Lib.bytesOf b).toArray
  rw [h]
theorem rMore_any (sum : Int) (l : List Int) (hb : Bys l) (hl : l.length ≤ 140737488355328) (w : World) :
    Calls Try.prog 12 #[.int .i64 sum, .string (strOfNums l)] w fun e w' => e = .returned (.int .i64 (tI (crcV (BitVec.ofInt 16 sum) l))) ∧ w = w' := by
  have := rMore_calls sum (strOfNums l) (by rw [strOfNums_size]; exact hl) w
  rwa [bytes_str hb] at this
theorem rSeal_calls (l : List Int) (hb : Bys l) (hl : l.length ≤ 20000) (w : World) :
    Calls Try.prog 15 #[.string (strOfNums l)] w fun e w' => e = .returned (.string (strOfNums (sealL l))) ∧ Below w.heap.size w w' := by
  obtain ⟨hc0, hc1⟩ : 0 ≤ crcI l ∧ crcI l < 65536 := tI_lt _
  have HB := Aside0.mk hb
  have HM : Aside0 (tI (crcV (BitVec.ofInt 16 0) l) = crcI l) := ⟨rfl⟩
  have HE : Aside0 (strOfNums l ++ strOfNums (putL (crcI l) 2) = strOfNums (sealL l)) := ⟨by rw [str_app, putL_two hc0 hc1]; rfl⟩
  have hs : (strOfNums l).size = l.length := strOfNums_size _
  have ht : (strOfNums (putL (crcI l) 2)).size ≤ 8 := by rw [strOfNums_size]; exact putL_le _ _
  have HN : Aside0 (0 ≤ crcI l ∧ crcI l < 18446744073709551616) := ⟨by omega⟩
  clear hb
  generalize strOfNums (sealL l) = r at HE ⊢
  have hl2 : l.length ≤ 140737488355328 := by omega
  obtain ⟨n, hn⟩ : ∃ n, n = crcI l := ⟨_, rfl⟩
  rw [← hn] at hc0 hc1 HM HE ht HN
  clear hn
  go_enter Try.func15, Try.ntmps15
  go_wp2_with (first | (go_at_call 12; (with_reducible refine (rMore_any 0 l HB.out hl2 _).mono ?_); rw [HM.out]; rintro e w1 ⟨rfl, rfl⟩) | (go_at_call 22; (with_reducible refine (rPut_any 2 n _ HN.out.1 HN.out.2).mono ?_); rintro e w2 ⟨rfl, hb2⟩; have HB2 := Aside0.mk hb2; clear hb2))
  go_ret
  exact ⟨by rw [← HE.out]; rfl, HB2.out⟩
theorem rOpen_calls (l : List Int) (hb : Bys l) (hl : l.length ≤ 20000) (w : World) :
    Calls Try.prog 10 #[.string (strOfNums l)] w fun e w' => e = .returned (.tuple #[.string (strOfNums (openL l)), .bool (openB l)]) ∧ Below w.heap.size w w' := by
  have HB := Aside0.mk hb
  have hs : (strOfNums l).size = l.length := strOfNums_size _
  by_cases h2 : 2 ≤ l.length
  · obtain ⟨m, hm⟩ : ∃ m, m = l.take (l.length - 2) := ⟨_, rfl⟩
    have hx : (strOfNums l).extract 0 (l.length - 2) = strOfNums m := by rw [str_extract, hm]; rfl
    have HM : Aside0 (Bys m ∧ m.length ≤ 20000) := ⟨by rw [hm]; exact fun x hx => hb x (List.mem_of_mem_take hx), by rw [hm, List.length_take]; omega⟩
    by_cases hq : sealL m = l
    · have HO := Aside0.mk (show openB l = true ∧ openL l = m by
        have : openB l = true := by rw [openB, ← hm, decide_eq_true hq, decide_eq_true h2]; rfl
        exact ⟨this, by rw [openL, this, if_pos rfl, hm]⟩)
      have HQ := Aside0.mk hq
      clear hq hm hb
      go_enter Try.func10, Try.ntmps10
      go_wp2_with (go_at_call 15; (with_reducible refine (rSeal_calls m HM.out.1 HM.out.2 _).mono ?_); rw [HQ.out]; rintro e w1 ⟨rfl, hb1⟩; have HB1 := Aside0.mk hb1; clear hb1)
      go_ret2
      rw [HO.out.1, HO.out.2, ← hx]
      exact ⟨rfl, HB1.out⟩
    · have HO := Aside0.mk (show openB l = false by rw [openB, ← hm, decide_eq_false hq, Bool.and_false])
      have hne : ((strOfNums (sealL m)).toList == (strOfNums l).toList) = false := by
        rw [beq_eq_false_iff_ne]
        exact fun h => hq (str_inj (seal_bys HM.out.1) hb (str_eq h))
      clear hq hm hb
      go_enter Try.func10, Try.ntmps10
      go_wp2_with (go_at_call 15; (with_reducible refine (rSeal_calls m HM.out.1 HM.out.2 _).mono ?_); rintro e w1 ⟨rfl, hb1⟩; have HB1 := Aside0.mk hb1; clear hb1)
      go_ret2
      rw [openL, HO.out]
      exact ⟨rfl, HB1.out⟩
  · have HO := Aside0.mk (show openB l = false by rw [openB, decide_eq_false h2, Bool.false_and])
    go_enter Try.func10, Try.ntmps10
    go_wp2
    go_ret2
    rw [openL, HO.out]
    exact ⟨rfl, Below.refl _ _⟩
theorem all_big (sum : Int) (A B : Option Addr) (c d : Nat) (l m : List Int) (w : World) (hl : l.length ≤ 140737488351232) (hm : m.length ≤ 140737488351232) (h : 5000 < l.length + m.length) :
    Calls Try.prog 3 #[.int .i64 sum, .slice A l.length c, .slice B m.length d] w fun e w' => e = .returned (.bool true) ∧ Below w.heap.size w w' := by
  have h1 : IntKind.i64.wrap ((l.length : Int) + m.length) = (l.length : Int) + m.length := IntWalk.i64_in _ (by omega)
  go_enter Try.func3, Try.ntmps3
  go_wp2_with (go_at_call 8; (with_reducible refine (crc_alive _).mono ?_); rintro e wA ⟨rfl, hbA⟩; have HBA := Aside0.mk hbA; clear hbA)
  go_ret
  exact ⟨rfl, HBA.out⟩
set_option maxHeartbeats 8000000 in
theorem all_small (sum : Int) (A B : Option Addr) (c d : Nat) (l m : List Int) (w : World) (hr : ReadsInt w .u8 A l.length l) (hbl : Bys l) (hc : l.length ≤ c) (hs : ReadsInt w .u8 B m.length m) (hbm : Bys m) (h : l.length + m.length ≤ 5000) :
    Calls Try.prog 3 #[.int .i64 sum, .slice A l.length c, .slice B m.length d] w fun e w' => e = .returned (.bool true) ∧ Below w.heap.size w w' := by
  have HR := Aside0.mk hr
  have HS := Aside0.mk hs
  have HBL := Aside0.mk hbl
  have HC := Aside0.mk hc
  have q0 := conv_reads (c := c) hr
  have hl2 : l.length ≤ 20000 := by omega
  have hl3 : l.length + 8 ≤ 140737488355328 := by omega
  obtain ⟨r, hr'⟩ : ∃ r, r = tI (crcV (BitVec.ofInt 16 sum) l) := ⟨_, rfl⟩
  have HRR := Aside0.mk hr'
  obtain ⟨t, ht'⟩ : ∃ t, t = tI (crcV (crcV 0#16 l) m) := ⟨_, rfl⟩
  have HTT := Aside0.mk ht'
  have HTU : Aside0 (t = tI (crcV (BitVec.ofInt 16 0) (l ++ m))) := ⟨by rw [ht', crcV_append]; rfl⟩
  have HBM : Aside0 (Bys (l ++ m)) := ⟨fun x hx => by rcases List.mem_append.1 hx with hx | hx; exact hbl x hx; exact hbm x hx⟩
  have hz1 : (strOfNums l).size = l.length := strOfNums_size _
  have hz2 : (strOfNums m).size = m.length := strOfNums_size _
  clear hr hs hbl hbm hc hr' ht'
  go_enter Try.func3, Try.ntmps3
  go_wp2_with (first | (go_at_call 9; (with_reducible refine (open_calls A c l _ HR.out HC.out hl3).mono ?_); rintro e w1 ⟨v1, rfl, hr1, hb1⟩; obtain ⟨A1, c1, rfl, hcc, hR1⟩ := reads_own2 hr1; have HR1 := Aside0.mk hR1; have HB1 := Aside0.mk hb1; have q1 := conv_reads (c := c) (HR.out.below hb1); clear hr1 hb1 hR1 hcc) | (go_at_call 10; (with_reducible refine (rOpen_calls l HBL.out hl2 _).mono ?_); rintro e w2 ⟨rfl, hb2⟩; have HB2 := Aside0.mk (bel_step HB1.out hb2); have HR2 := Aside0.mk (HR1.out.below hb2); clear hb2))
  have HQ := Aside0.mk (show ∀ W, Below w2.heap.size w2 W → (convert 22 9 (.slice A l.length c)).run Try.prog W = .ok (.string (strOfNums l)) W ∧ (convert 22 9 (.slice B m.length d)).run Try.prog W = .ok (.string (strOfNums m)) W ∧ (convert 22 9 (.slice A1 (openL l).length c1)).run Try.prog W = .ok (.string (strOfNums (openL l))) W from fun W hW =>
    ⟨conv_reads (c := c) (HR.out.below (bel_step HB2.out hW)), conv_reads (c := d) (HS.out.below (bel_step HB2.out hW)), conv_reads (c := c1) (HR2.out.below hW)⟩)
  go_region_held (fun w' => (convert 22 9 (.slice A l.length c)).run Try.prog w' = .ok (.string (strOfNums l)) w' ∧ (convert 22 9 (.slice B m.length d)).run Try.prog w' = .ok (.string (strOfNums m)) w' ∧ (convert 22 9 (.slice A1 (openL l).length c1)).run Try.prog w' = .ok (.string (strOfNums (openL l))) w') (first | exact HQ.out _ HK6.out | exact HQ.out _ HK5.out | exact HQ.out _ HK4.out | exact HQ.out _ (below_alloc HK3.out _) | exact HQ.out _ HK3.out | exact HQ.out _ HKA.out | exact HQ.out _ (Below.refl _ _).drew) (first | (go_at_call 8; (with_reducible refine (crc_alive _).mono ?_); rintro e wA ⟨rfl, hbA⟩; have HBA := Aside0.mk (bel_step HB2.out.drew hbA); have HKA := Aside0.mk (bel_step (Below.refl _ _).drew hbA); clear hbA) | (go_at_call 11; (with_reducible refine (more_v sum A c l _ (HR.out.below HBA.out) (by omega)).mono ?_); rw [← HRR.out]; rintro e w3 ⟨rfl, hb3⟩; have HB3 := Aside0.mk (bel_step HBA.out hb3); have HK3 := Aside0.mk (bel_step HKA.out hb3); clear hb3) | (go_at_call 12; (with_reducible refine (rMore_any sum l HBL.out (by omega) _).mono ?_); rw [← HRR.out]; rintro e wx ⟨rfl, rfl⟩) | (go_at_call 13; (with_reducible refine (sum_two l A c m B d w3.heap.size 2 _ (heap_alloc_new w3 _) (HR.out.below (below_alloc HB3.out _)) (HS.out.below (below_alloc HB3.out _)) (by omega) (by omega)).mono ?_); rw [← HTT.out]; rintro e w4 ⟨rfl, hb4⟩; have HB4 := Aside0.mk (bel_step (below_alloc HB3.out _) hb4); have HK4 := Aside0.mk (bel_step (below_alloc HK3.out _) hb4); clear hb4) | (go_at_call 12; (with_reducible refine (calls_at' (by rw [str_app]) (rMore_any 0 (l ++ m) HBM.out (by rw [List.length_append]; omega) _)).mono ?_); rw [← HTU.out]; rintro e wx ⟨rfl, rfl⟩) | (go_at_call 14; (with_reducible refine (seal_calls A c l _ (HR.out.below HB4.out) hl3).mono ?_); rintro e w5 ⟨v5, rfl, hr5, hb5⟩; obtain ⟨A5, c5, rfl, hcc, hR5⟩ := reads_own2 hr5; have HR5 := Aside0.mk hR5; have HB5 := Aside0.mk (bel_step HB4.out hb5); have HK5 := Aside0.mk (bel_step HK4.out hb5); have q5 := conv_reads (c := c5) hR5; clear hr5 hb5 hR5 hcc) | (go_at_call 15; (with_reducible refine (rSeal_calls l HBL.out hl2 _).mono ?_); rintro e w6 ⟨rfl, hb6⟩; have HB6 := Aside0.mk (bel_step HB5.out hb6); have HK6 := Aside0.mk (bel_step HK5.out hb6); have q6 := conv_reads (c := c5) (HR5.out.below hb6); clear hb6))
  all_goals
    go_wp2
    go_ret
    exact ⟨rfl, HB6.out⟩
theorem crcAll_walk (sum : Int) (A : Option Addr) (c : Nat) (l : List Int) (B : Option Addr) (d : Nat) (m : List Int) (w : World) (_h : (Lit.int .i64 sum).wf = true) (hr : ReadsInt w .u8 A l.length l) (hbl : Bys l) (y1 : l.length ≤ 140737488351232) (hc : l.length ≤ c) (hs : ReadsInt w .u8 B m.length m) (hbm : Bys m) (y2 : m.length ≤ 140737488351232) :
    Calls Try.prog 3 #[.int .i64 sum, .slice A l.length c, .slice B m.length d] w fun e w' => e = .returned (.bool true) ∧ Below w.heap.size w w' := by
  by_cases h : 5000 < l.length + m.length
  · exact all_big sum A B c d l m w y1 y2 h
  · exact all_small sum A B c d l m w hr hbl hc hs hbm (by omega)
end Go.Proofs.Ytjmmafonidgimaa.Hand
