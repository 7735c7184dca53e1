/- What a claim needs of the walks and contracts, part 4. -/
import Derived.Deep.Slices
import Derived.ChangeSame
import Derived.Lib.SmallJoins
import Derived.Deep.Strs
import Derived.Test.YtgendnoafemgpaaHandU3
namespace Go.Proofs.Ytgendnoafemgpaa.Hand
attribute [local go_sem] Oper.semAt_some
open Go.RowKit Go.Maps Go.Sort Go.Shelf Go.Proofs.YtgendnoafemgpaaW.PrintWords Go.Proofs.YtgendnoafemgpaaW.PrintLast Go.Proofs.Ytgendnoafemgpaa.PHandRB
set_option linter.unusedVariables false
set_option linter.unusedSimpArgs false
theorem drawn_below {w w' : World} (h : Drawn0 w w') : Below w.heap.size w w' := by
  obtain ⟨n, rfl⟩ := h
  exact ⟨rfl, rfl, rfl, Nat.le_refl _, fun _ _ => rfl⟩
section
variable {w : World} {A : Option Addr} {c U : Nat} {bs : List Pc}
theorem occ_C (h : Kd.C (Kd.int .i64) w A U (occ U bs)) : Kd.C (Kd.int .i64) w A (occ U bs).length (occ U bs) := by rw [occ_len]; exact h
theorem rlong_calls (hr : Kd.C (Kd.int .i64) w A U (occ U bs)) (hc : U ≤ c) (hU : U ≤ 1024) (h : Chain 0 bs U) (x : Int) (hx : I64 x) : Calls Try.prog 35 #[.slice A U c, .int .i64 x] w fun e w' => e = .returned (.int .i64 (longI bs x)) ∧ Below w.heap.size w w' := by
  have := ecdysisref10_Long.calls 2000 A c (occ U bs) x (longI bs x) w (occ_C hr) (by rw [occ_len]; exact hc) (long_f hU h x 2000 (Nat.le_refl _) hx)
  rw [occ_len] at this
  exact this.mono fun e w' he => ⟨he.1, drawn_below he.2⟩
theorem rused_calls (hr : Kd.C (Kd.int .i64) w A U (occ U bs)) (hc : U ≤ c) (hU : U ≤ 1024) (h : Chain 0 bs U) : Calls Try.prog 38 #[.slice A U c] w fun e w' => e = .returned (.int .i64 ((gsum bs : Nat) : Int)) ∧ Below w.heap.size w w' := by
  have := ecdysisref10_Used.calls 2000 A c (occ U bs) _ w (occ_C hr) (by rw [occ_len]; exact hc) (used_f hU h 2000 (Nat.le_refl _))
  rw [occ_len] at this
  exact this.mono fun e w' he => ⟨he.1, drawn_below he.2⟩
theorem rlarge_calls (hr : Kd.C (Kd.int .i64) w A U (occ U bs)) (hc : U ≤ c) (hU : U ≤ 1024) (h : Chain 0 bs U) : Calls Try.prog 39 #[.slice A U c] w fun e w' => e = .returned (.int .i64 ((mostN (gaps 0 bs U) : Nat) : Int)) ∧ Below w.heap.size w w' := by
  have := ecdysisref10_Largest.calls 2000 A c (occ U bs) _ w (occ_C hr) (by rw [occ_len]; exact hc) (large_f hU h 2000 (Nat.le_refl _))
  rw [occ_len] at this
  exact this.mono fun e w' he => ⟨he.1, drawn_below he.2⟩
theorem rstarts_calls (hr : Kd.C (Kd.int .i64) w A U (occ U bs)) (hc : U ≤ c) (hU : U ≤ 1024) (h : Chain 0 bs U) : Calls Try.prog 24 #[.slice A U c] w fun e w' => ∃ A2 c2, e = .returned (.slice A2 bs.length c2) ∧ Kd.C (Kd.int .i64) w' A2 bs.length (startsI bs) ∧ bs.length ≤ c2 ∧ Below w.heap.size w w' := by
  have := ecdysisref10_Starts.calls 2000 A c (occ U bs) (startsI bs) w (occ_C hr) (by rw [occ_len]; exact hc) (starts_f hU h 2000 (Nat.le_refl _))
  rw [occ_len] at this
  refine this.mono ?_
  rintro e w' ⟨v, rfl, hr2, hb⟩
  obtain ⟨A2, c2, rfl, hc2, hC⟩ := Kd.R_reads hr2
  rw [startsI_len] at hc2 hC ⊢
  exact ⟨A2, c2, rfl, hC, hc2, hb⟩
theorem rsame_calls {A2 : Option Addr} {c2 : Nat} (h1 : Kd.C (Kd.int .i64) w A bs.length (startsI bs)) (hc1 : bs.length ≤ c) (h2 : Kd.C (Kd.int .i64) w A2 bs.length (startsI bs)) (hc2 : bs.length ≤ c2) (hl : bs.length ≤ 1024) : Calls Try.prog 36 #[.slice A bs.length c, .slice A2 bs.length c2] w fun e w' => e = .returned (.bool true) ∧ Below w.heap.size w w' := by
  have hs := startsI_len bs
  have := ecdysisref03_Same.calls 2001 A c (startsI bs) A2 c2 (startsI bs) true w (by rw [hs]; exact h1) (by rw [hs]; exact hc1) (by rw [hs]; exact h2) (by rw [hs]; exact hc2) (same_f _ (by rw [hs]; omega) 2001 (Nat.le_refl _))
  rw [hs] at this
  exact this.mono fun e w' he => ⟨he.1, drawn_below he.2⟩
end
theorem ownsRow_same {w w1 : World} {base : Nat} {e : TypeId} {size : Nat} {v : Value} {n : Nat} {xs : List Value} (h : w.ownsRow base e size v n xs) (hb : ∀ b, v.ownBlock = some b → w1.heap[b]? = w.heap[b]?) : w1.ownsRow base e size v n xs := by
  obtain ⟨h1, h2⟩ := h
  refine ⟨h1, ?_⟩
  rcases h2 with h2 | ⟨g, cap, cur, rfl, hg, hc, rest⟩
  · exact .inl h2
  · exact .inr ⟨g, cap, cur, rfl, hg, (hb g rfl).trans hc, rest⟩
theorem ownsRow_blk {w : World} {base : Nat} {e : TypeId} {size : Nat} {v : Value} {n : Nat} {xs : List Value} (h : w.ownsRow base e size v n xs) {b : Nat} (hb : v.ownBlock = some b) : base ≤ b ∧ ∃ cs t fr, w.heap[b]? = some (.cells cs t fr) := by
  rcases h.2 with ⟨rfl, _⟩ | ⟨g, cap, cur, rfl, hg, hc, rest⟩
  · simp [Value.ownBlock] at hb
  · simp only [Value.ownBlock, Option.some.injEq] at hb
    subst hb
    exact ⟨hg, _, _, _, hc⟩
theorem ownsRow_itg {w w1 : World} {base N : Nat} {e : TypeId} {size : Nat} {v : Value} {n : Nat} {xs : List Value} (h : w.ownsRow base e size v n xs) (hg : ItG N w w1) : w1.ownsRow base e size v n xs := by
  refine ownsRow_same h (fun b hb => ?_)
  obtain ⟨_, cs, t, fr, hc⟩ := ownsRow_blk h hb
  obtain ⟨row, hgr, hr⟩ := hg
  refine hgr.block b (Array.getElem?_eq_some_iff.1 hc).1 (fun e => ?_)
  obtain ⟨_, o, ho2, hcells⟩ := hr b e.symm
  rw [hc] at ho2
  cases ho2
  cases hcells
theorem info_i64 : (Try.prog.info? 3).map (fun i => (i.zero, i.size, i.bytes)) = some (some (.int .i64 0), 1, 8) := by kernel_rfl
/-- What the loop over the blocks holds. -/
structure StI (N : Nat) (w1 : World) (bs : List Pc) (M k : Nat) (W : World) : Prop where
  ex : ∃ v, W.heap[N + 3]? = some (.cells #[v] 36 (0, 0)) ∧ W.ownsRow M 3 1 v k ((startsI (bs.take k)).map (fun x => .int .i64 x))
  fr : Fr (fun b => b = N + 3) w1 W
set_option maxRecDepth 100000 in
set_option maxHeartbeats 8000000 in
theorem stands_calls (w : World) (p s U : Nat) (bs : List Pc) (h : HasB w p s U bs) (A : Option Addr) (c : Nat) (hr : Kd.C (Kd.int .i64) w A U (occ U bs)) (hc : U ≤ c) :
    Calls Try.prog 21 #[.pointer (some ⟨p, 0, none⟩), .slice A U c] w fun e w' => e = .returned (.bool true) ∧ Below w.heap.size w w' := by
  have HH := Aside0.mk h
  have HR := Aside0.mk hr
  have hmU := h.max
  have hbl := h.ok.le_len
  have cE := fun (w : World) => callsIn_wide (n := 14).2 (each_calls w p)
  have hfE : Fence.wide.fn 13 := trivial
  clear h hr
  refine (callsIn_wide (n := 15)).1 ?_
  refine callsIn_of_wp_marks Try.func21 rfl trivial ?_ rfl
  simp only [Try.ntmps21, List.size_toArray, List.length_cons, List.length_nil, Nat.reduceAdd, Nat.reduceSub, Array.replicate_succ, Array.replicate_zero, List.push_toArray, List.append_toArray, List.nil_append, List.cons_append]
  gi_wp2_with (gi_at_call 13; refine (cE _).mono ?_; rintro e w' ⟨rfl, rfl⟩)
  clear cE hfE
  obtain ⟨w1, hw1⟩ : ∃ w1, w1 = (((((w.alloc (.cells #[.pointer (some ⟨p, 0, none⟩)] 23)).alloc (.cells #[.slice A U c] 36)).alloc (.cells #[.bool false] 4)).alloc (.cells #[.slice none 0 0] 36)).alloc (.cells #[.pointer (some ⟨p, 0, none⟩)] 23)) := ⟨_, rfl⟩
  rw [← hw1]
  obtain ⟨N, hN⟩ : ∃ N, N = w.heap.size := ⟨_, rfl⟩
  have HN := Aside0.mk hN
  have hz1 : w1.heap.size = N + 5 := by rw [hw1, hN]; simp
  have HBW := Aside0.mk (show Below w.heap.size w w1 by rw [hw1]; exact below_alloc (below_alloc (below_alloc (below_alloc (below_alloc (Below.refl _ _) _) _) _) _) _)
  have b0 : w1.heap[N]? = some (.cells #[.pointer (some ⟨p, 0, none⟩)] 23 (0, 0)) := by rw [hw1, hN]; exact old_blk (old_blk (old_blk (old_blk (heap_alloc_new w _) _) _) _) _
  have b1 : w1.heap[N + 1]? = some (.cells #[.slice A U c] 36 (0, 0)) := by rw [hw1, hN]; exact old_blk (old_blk (old_blk (alloc_two w _ _) _) _) _
  have b2 : w1.heap[N + 2]? = some (.cells #[.bool false] 4 (0, 0)) := by rw [hw1, hN]; exact old_blk (old_blk (alloc_three w _ _ _) _) _
  have b3 : w1.heap[N + 3]? = some (.cells #[.slice none 0 0] 36 (0, 0)) := by
    rw [hw1, hN]
    have := alloc_two ((w.alloc (.cells #[.pointer (some ⟨p, 0, none⟩)] 23)).alloc (.cells #[.slice A U c] 36)) (.cells #[.bool false] 4) (.cells #[.slice none 0 0] 36)
    refine old_blk ?_ _
    simpa using this
  have b4 : w1.heap[N + 4]? = some (.cells #[.pointer (some ⟨p, 0, none⟩)] 23 (0, 0)) := by
    rw [hw1, hN]
    have := alloc_three ((w.alloc (.cells #[.pointer (some ⟨p, 0, none⟩)] 23)).alloc (.cells #[.slice A U c] 36)) (.cells #[.bool false] 4) (.cells #[.slice none 0 0] 36) (.cells #[.pointer (some ⟨p, 0, none⟩)] 23)
    simpa using this
  have HZ := Aside0.mk hz1
  have hlt : p < N ∧ s < N := by rw [hN]; exact ⟨HH.out.p_lt, HH.out.s_lt⟩
  obtain ⟨hp1, hs1⟩ := hlt
  have HH1 := Aside0.mk (HH.out.below HBW.out)
  have HR1 := Aside0.mk (Kd.C_below HR.out HBW.out)
  have hseq := each_seq w1 (N + 4) p s U bs HH1.out (blk_cell b4 rfl)
  have HB0 := Aside0.mk b0
  have HB1 := Aside0.mk b1
  have HB2 := Aside0.mk b2
  have HB3 := Aside0.mk b3
  clear hw1 b0 b1 b2 b3 b4
  rw [← hN]
  clear hN
  have HBV := Aside0.mk (show ∀ V, Fr (fun b => b = N + 3) w1 V → Below w.heap.size w V from fun V hV => by
    rw [← HN.out]
    have h1 := HBW.out
    rw [← HN.out] at h1
    exact h1.trans (hV.below N (by omega) (fun b hb => by omega)))
  refine range_listA itG (xs := bs) (enc := encP) rfl (enters_of Try.func29 (by kernel_rfl) rfl) hseq (Below.refl _ _) (fun b hb => ?_) (fun _ => rfl)
    (fun W' => Below (N + 5) w1 W') (StI N w1 bs) (fun _ _ _ _ => False) ?hI0 ?hI ?hIx ?hstart ?h0 ?a1 ?assign ?body ?done ?stop
  · rcases hb with rfl | rfl | rfl <;> omega
  case hI0 =>
    rintro P Q hA h1 hg
    have hg2 := itG.below hA hg
    rw [hz1] at hg2
    exact h1.trans hg2
  case hI =>
    rintro M k P Q hA ⟨⟨v, h1, h2⟩, h3⟩ hg
    have hg2 := itG.below hA hg
    rw [hz1] at hg2
    exact ⟨⟨v, (hg2.block _ (by omega)).trans h1, ownsRow_itg h2 hg⟩, h3.trans (T := fun b => N + 5 ≤ b) ⟨hg2.os, hg2.tape, hg2.output, hg2.size, fun b _ hb => hg2.block b (by omega)⟩ (fun b hb hl => by rw [hz1] at hl; omega)⟩
  case hIx => intro c M k P Q hA h; exact h.elim
  case hstart =>
    rintro M W' h1 h2 h3
    exact ⟨⟨_, (h3.block _ (by omega)).trans HB3.out, World.ownsRow_nil _ _ _ _⟩, Fr.of_below (by rw [hz1]; exact h3) _⟩
  case h0 => exact Below.refl _ _
  case assign =>
    intro l' x W' K hK
    simp only [encP]
    gi_wp2
    exact hK
  case body =>
    rintro l' M k ⟨a, n⟩ W' hx hM hMW ⟨⟨v, h1, h2⟩, h3⟩
    rw [hz1] at hM
    obtain ⟨i0, hi, hi0, hi1, hi2⟩ := info_parts info_i64
    have hq := chain_mem HH.out.ok (a, n) (List.mem_of_getElem? hx)
    simp only at hq
    have hkl : k < bs.length := (List.getElem?_eq_some_iff.1 hx).1
    have HLG := Aside0.mk (longN_of HH.out.ok (List.mem_of_getElem? hx))
    have HX := Aside0.mk (show (startsI (bs.take (k + 1))).map (fun x => Value.int .i64 x) = (startsI (bs.take k)).map (fun x => Value.int .i64 x) ++ [Value.int .i64 (a : Int)] by rw [take_snoc hx, startsI, List.map_append, List.map_append]; rfl)
    obtain ⟨xs, hxs⟩ : ∃ xs, xs = (startsI (bs.take k)).map (fun x => Value.int .i64 x) := ⟨_, rfl⟩
    rw [← hxs] at h2 HX
    have k0 := h3.get HB0.out (by omega)
    have k1 := h3.get HB1.out (by omega)
    have c0 := blk_cell k0 (i := 0) rfl
    have c1 := blk_cell k1 (i := 0) rfl
    have c3 := blk_cell h1 (i := 0) rfl
    have H0 := Aside0.mk k0
    have H1 := Aside0.mk k1
    have HK3 := Aside0.mk h1
    have HO := Aside0.mk h2
    have HF := Aside0.mk h3
    have HM := Aside0.mk hM
    have HMW := Aside0.mk hMW
    clear hx hxs h1 h2 h3 k0 k1 hM hMW hseq
    gi_wp2_with (gi_at_builtin; refine wpListIn_append_own _ rfl _ _ 36 rfl M 3 i0 (.int .i64 0) 1 8 Try.underlying36 hi hi0 hi1 hi2 rfl (by decide) _ _ _ rfl (ownsRow_same HO.out (fun b hb => by obtain ⟨_, cs, t, fr, hcc⟩ := ownsRow_blk HO.out hb; exact heap_alloc_old _ _ (Array.getElem?_eq_some_iff.1 hcc).1)) ⟨W'.heap.size, 0, none⟩ 1 1 [.int .i64 (a : Int)] rfl rfl (cell_one_new _ _ _) (by simp [Value.oneCell']) (by unfold maxLen; omega) (by omega) (by have := HMW.out; simp; omega) ?_; intro v2 w2 hown2 hgrow2 _; obtain ⟨g2, cap2, rfl⟩ := ownsRow_succ hown2; have HO2 := Aside0.mk hown2; have HG2 := Aside0.mk hgrow2; clear hown2 hgrow2; have hnb : ∀ b, b < M → b < W'.heap.size → w2.heap[b]? = W'.heap[b]? := fun b hb hbl => (HG2.out.block b (by simp; omega) (fun e => by have := (ownsRow_blk HO.out e.symm).1; omega)).trans (heap_alloc_old _ _ hbl); have HNB := Aside0.mk hnb; clear hnb; have q3 := (HNB.out (N + 3) (by have := HM.out; omega) (blk_lt HK3.out)).trans HK3.out; have e3 := blk_cell q3 (i := 0) rfl; have f3 := blk_free q3 0; have Q3 := Aside0.mk q3; clear q3; have q0 := (HNB.out N (by have := HM.out; omega) (blk_lt H0.out)).trans H0.out; have e0 := blk_cell q0 (i := 0) rfl; have q1 := (HNB.out (N + 1) (by have := HM.out; omega) (blk_lt H1.out)).trans H1.out; have e1 := blk_cell q1 (i := 0) rfl; clear q0 q1)
    obtain ⟨V, hV⟩ : ∃ V, V = w2.setCell ⟨N + 3, 0, none⟩ (.slice (some ⟨g2, 0, none⟩) (k + 1) cap2) := ⟨_, rfl⟩
    have hVt := hV
    rw [show (⟨N + 3, 0, none⟩ : Addr) = ⟨N + 1 + 1 + 1, 0, none⟩ from rfl] at hVt
    rw [← hVt]
    clear hVt
    have HFV := Aside0.mk (show Fr (fun b => b = N + 3) w1 V from by
      have hb2 : Fr (fun b => M ≤ b) W' w2 := ⟨HG2.out.os, HG2.out.tape, HG2.out.output, Nat.le_trans (by simp) HG2.out.size, fun b hb hn => HNB.out b (by omega) hb⟩
      have h3 : Fr (fun b => b = N + 3) w1 w2 := HF.out.trans hb2 (fun b hb hl => by have := HM.out; rw [HZ.out] at hl; omega)
      rw [hV]
      exact h3.setCell (.inl rfl) _)
    have v0 : V.cell? ⟨N, 0, none⟩ = some (.pointer (some ⟨p, 0, none⟩)) := by rw [hV]; exact cell_far e0 _ (by simp)
    have HV3 := Aside0.mk (show V.heap[N + 3]? = some (.cells #[.slice (some ⟨g2, 0, none⟩) (k + 1) cap2] 36 (0, 0)) by rw [hV]; have := blk_set Q3.out 0 (.slice (some ⟨g2, 0, none⟩) (k + 1) cap2); simpa using this)
    have HOV := Aside0.mk (show V.ownsRow M 3 1 (.slice (some ⟨g2, 0, none⟩) (k + 1) cap2) (k + 1) (xs ++ [Value.int .i64 (a : Int)]) from ownsRow_same HO2.out (fun b hb => by
      have := (ownsRow_blk HO2.out hb).1
      rw [hV]
      exact Below.heap_setCell _ _ _ _ (by have := HM.out; simp only; omega)))
    have HKV := Aside0.mk (show KeepI w1.heap.size M (SB (N + 4) p s) W' V from ⟨by have := HG2.out.size; rw [hV]; simp at this ⊢; omega, fun b hb hs => by
      have hM := HM.out
      have hz := HZ.out
      have hbM : b < M ∧ b ≠ N + 3 := by
        rcases hs with hs | rfl | rfl | rfl
        · omega
        · omega
        · omega
        · omega
      rw [hV]
      exact (Below.heap_setCell _ _ _ _ hbM.2).trans (HNB.out b hbM.1 hb)⟩)
    clear hV c0 c1 c3 e0 e1 e3 f3
    have hVB := HBV.out V HFV.out
    refine ⟨trivial, ?_⟩
    refine (CallsIn.inRound l' (callsIn_wide (n := 12).2 (rlong_calls (Kd.C_below HR.out hVB) hc hmU HH.out.ok (a : Int) (by constructor <;> omega)))).mono ?_
    rintro e V2 ⟨rfl, hv2⟩
    rw [longI_nat, HLG.out]
    have v02 := bel_cellB hv2 v0
    have HV2 := Aside0.mk hv2
    have hV2B := bel_stepB hVB hv2
    have HL2 := Aside0.mk (CallsIn.inRound l' (callsIn_wide (n := 12).2 (long_calls V2 p s U bs (HH.out.below hV2B) (a : Int) (wf_nat (by omega)))))
    clear hv2 hVB hV2B v0
    have hfL : Fence.wide.fn 18 := trivial
    gi_wp2_with (gi_at_call 18; refine HL2.out.mono ?_; clear HL2; rintro e V3 ⟨rfl, rfl⟩; rw [longI_nat, HLG.out])
    have hz := HZ.out
    have hM9 := HM.out
    refine ⟨HKV.out.trans (KeepI.of_below HV2.out), ⟨⟨_, (HV2.out.block _ (blk_lt HV3.out)).trans HV3.out, ?_⟩, HFV.out.then_below HV2.out⟩⟩
    rw [HX.out]
    exact ownsRow_same HOV.out (fun b hb => by obtain ⟨_, cs, t, fr, hcc⟩ := ownsRow_blk HOV.out hb; exact HV2.out.block b (Array.getElem?_eq_some_iff.1 hcc).1)
  case done =>
    rintro M W' hM hMW ⟨⟨v, h1, h2⟩, h3⟩ hD
    rw [List.take_length] at h2
    have hRv : Kd.R (Kd.int .i64) 3 W' M (fun _ => True) v (startsI bs) := Kd.R_of_own (by rw [startsI_len]; exact h2) (fun _ _ => trivial)
    obtain ⟨A5, c5, rfl, hc5, hC5⟩ := Kd.R_reads hRv
    rw [startsI_len] at hc5 hC5 h1
    have k0 := h3.get HB0.out (by omega)
    have k1 := h3.get HB1.out (by omega)
    have k2 := h3.get HB2.out (by omega)
    have c0 := blk_cell k0 (i := 0) rfl
    have c1 := blk_cell k1 (i := 0) rfl
    have c3 := blk_cell h1 (i := 0) rfl
    have HK2 := Aside0.mk k2
    have HT1 := Aside0.mk ((HBV.out W' h3).drew)
    have HC5 := Aside0.mk (show Kd.C (Kd.int .i64) W'.drew A5 bs.length (startsI bs) from Kd.C_below hC5 ((Below.refl _ _).drew))
    have HD := Aside0.mk hD
    have HM := Aside0.mk hM
    have HMW := Aside0.mk hMW
    have hbl2 : bs.length ≤ 1024 := by omega
    rw [hz1] at hD
    have HDZ := Aside0.mk hD
    clear hseq h1 h2 h3 hRv hC5 k0 k1 k2 hD hM hMW
    gi_wp2
    refine Ystart_ (m := 26) (S := fun w' => w'.cell? ⟨N + 3, 0, none⟩ = some (.slice A5 bs.length c5) ∧ w'.cell? ⟨N + 1, 0, none⟩ = some (.slice A U c) ∧ w'.cell? ⟨N, 0, none⟩ = some (.pointer (some ⟨p, 0, none⟩))) (ds := [25]) #[false, false, false, false, false, false, false, false, false, false, false, false, false, false, false, false, false, false, false, false, false, false, false, false, false, false] (by kernel_rfl) rfl rfl (fun _ => trivial) (by kernel_rfl) ⟨c3, c1, c0⟩ (fun hHeld => ?_)
    refine Ytake_ (i := 0) (N := some 28) (v := ?_) (a' := ?_) #[true, false, false, false, false, false, false, false, false, false, false, false, false, false, false, false, false, false, false, false, false, false, false, false, false, false] rfl rfl (by kernel_rfl) (fun _ _ _ h => h) (Or.inl ⟨by rfl, ?_⟩) hHeld ?_ ?_
    rotate_left
    · rintro w' ⟨s0, s1, s2⟩
      go_simp
      with_reducible rfl
    rotate_left
    · simp only [Act.put, List.setIfInBounds_toArray, List.set_cons_zero, List.set_cons_succ, i64_w, i32_w]
      rfl
    refine Ytake_ (i := 1) (N := some 29) (v := ?_) (a' := ?_) #[true, true, false, false, false, false, false, false, false, false, false, false, false, false, false, false, false, false, false, false, false, false, false, false, false, false] rfl rfl (by kernel_rfl) (fun _ _ _ h => h) (Or.inl ⟨by rfl, ?_⟩) hHeld ?_ ?_
    rotate_left
    · rintro w' ⟨s0, s1, s2⟩
      go_simp
      with_reducible rfl
    rotate_left
    · simp only [Act.put, List.setIfInBounds_toArray, List.set_cons_zero, List.set_cons_succ, i64_w, i32_w]
      rfl
    refine Yone_ (i := 2) (N := some 30) #[true, true, true, false, false, false, false, false, false, false, false, false, false, false, false, false, false, false, false, false, false, false, false, false, false, false] rfl rfl (by kernel_rfl) (by decide) (fun K hK => ?_)
    refine Ygoes_ Try.func24 (by kernel_rfl) rfl #[.slice A U c] (by rfl) rfl rfl (by simp only [List.map_toArray, List.map_cons, List.map_nil]; rfl) (by first | exact .inl rfl | exact .inr ⟨_, rfl⟩) ?_
    with_reducible refine (rstarts_calls (Kd.C_below HR.out HT1.out) hc hmU HH.out.ok).mono ?_
    rintro e w2 ⟨A6, c6, rfl, hC6, hc6, hb2⟩
    refine ⟨_, rfl, ?_⟩
    have HC6 := Aside0.mk hC6
    have HB2x := Aside0.mk hb2
    have HT2 := Aside0.mk (bel_stepB HT1.out hb2)
    clear hC6 hb2
    refine hK.out _ _ ⟨(bel_cellB HB2x.out hHeld.1), (bel_cellB HB2x.out hHeld.2.1), (bel_cellB HB2x.out hHeld.2.2)⟩ (fun hHeld => ?_)
    clear hK K
    refine Ynorm_ (a' := ?_) ?_ ?_
    rotate_left
    · show Act.put _ (some 30) _ = _
      simp only [Act.put, List.setIfInBounds_toArray, List.set_cons_zero, List.set_cons_succ, i64_w, i32_w]
      rfl
    refine Yone_ (i := 3) (N := some 31) #[true, true, true, true, false, false, false, false, false, false, false, false, false, false, false, false, false, false, false, false, false, false, false, false, false, false] rfl rfl (by kernel_rfl) (by decide) (fun K hK => ?_)
    refine Ygoes_ Try.func36 (by kernel_rfl) rfl #[.slice A5 bs.length c5, .slice A6 bs.length c6] (by rfl) rfl rfl (by simp only [List.map_toArray, List.map_cons, List.map_nil]; rfl) (by first | exact .inl rfl | exact .inr ⟨_, rfl⟩) ?_
    with_reducible refine (rsame_calls (Kd.C_below HC5.out HB2x.out) hc5 HC6.out hc6 hbl2).mono ?_
    rintro e w3 ⟨rfl, hb3⟩
    refine ⟨_, rfl, ?_⟩
    have HB3x := Aside0.mk hb3
    have HT3 := Aside0.mk (bel_stepB HT2.out hb3)
    clear hb3
    refine hK.out _ _ ⟨(bel_cellB HB3x.out hHeld.1), (bel_cellB HB3x.out hHeld.2.1), (bel_cellB HB3x.out hHeld.2.2)⟩ (fun hHeld => ?_)
    clear hK K
    refine Ynorm_ (a' := ?_) ?_ ?_
    rotate_left
    · show Act.put _ (some 31) _ = _
      simp only [Act.put, List.setIfInBounds_toArray, List.set_cons_zero, List.set_cons_succ, i64_w, i32_w]
      rfl
    refine Ypure_ (i := 4) (N := some 32) (v := ?_) (a' := ?_) #[true, true, true, true, true, false, false, false, false, false, false, false, false, false, false, false, false, false, false, false, false, false, false, false, false, false] rfl rfl (by kernel_rfl) (fun _ _ _ h => h) (Or.inl ⟨by rfl, ?_⟩) ?_ ?_
    rotate_left
    · intro w'
      go_simp
      with_reducible rfl
    rotate_left
    · simp only [Act.put, List.setIfInBounds_toArray, List.set_cons_zero, List.set_cons_succ, i64_w, i32_w]
      rfl
    refine Ytake_ (i := 5) (N := some 33) (v := ?_) (a' := ?_) #[true, true, true, true, true, true, false, false, false, false, false, false, false, false, false, false, false, false, false, false, false, false, false, false, false, false] rfl rfl (by kernel_rfl) (fun _ _ _ h => h) (Or.inl ⟨by rfl, ?_⟩) hHeld ?_ ?_
    rotate_left
    · rintro w' ⟨s0, s1, s2⟩
      go_simp
      with_reducible rfl
    rotate_left
    · simp only [Act.put, List.setIfInBounds_toArray, List.set_cons_zero, List.set_cons_succ, i64_w, i32_w]
      rfl
    refine Ytake_ (i := 7) (N := some 35) (v := ?_) (a' := ?_) #[true, true, true, true, true, true, false, true, false, false, false, false, false, false, false, false, false, false, false, false, false, false, false, false, false, false] rfl rfl (by kernel_rfl) (fun _ _ _ h => h) (Or.inl ⟨by rfl, ?_⟩) hHeld ?_ ?_
    rotate_left
    · rintro w' ⟨s0, s1, s2⟩
      go_simp
      with_reducible rfl
    rotate_left
    · simp only [Act.put, List.setIfInBounds_toArray, List.set_cons_zero, List.set_cons_succ, i64_w, i32_w]
      rfl
    refine Ypure_ (i := 8) (N := some 36) (v := ?_) (a' := ?_) #[true, true, true, true, true, true, false, true, true, false, false, false, false, false, false, false, false, false, false, false, false, false, false, false, false, false] rfl rfl (by kernel_rfl) (fun _ _ _ h => h) (Or.inl ⟨by rfl, ?_⟩) ?_ ?_
    rotate_left
    · intro w'
      go_simp
      with_reducible rfl
    rotate_left
    · simp only [Act.put, List.setIfInBounds_toArray, List.set_cons_zero, List.set_cons_succ, i64_w, i32_w]
      rfl
    refine Yone_ (i := 6) (N := some 34) #[true, true, true, true, true, true, true, true, true, false, false, false, false, false, false, false, false, false, false, false, false, false, false, false, false, false] rfl rfl (by kernel_rfl) (by decide) (fun K hK => ?_)
    refine Ygoes_ Try.func37 (by kernel_rfl) rfl #[.pointer (some ⟨p, 0, none⟩)] (by rfl) rfl rfl (by simp only [List.map_toArray, List.map_cons, List.map_nil]; rfl) (by first | exact .inl rfl | exact .inr ⟨_, rfl⟩) ?_
    with_reducible refine (units_calls w3 p s U bs (HH.out.below HT3.out)).mono ?_
    rintro e w3b ⟨rfl, rfl⟩
    refine ⟨_, rfl, ?_⟩
    refine hK.out _ _ ⟨hHeld.1, hHeld.2.1, hHeld.2.2⟩ (fun hHeld => ?_)
    clear hK K
    refine Ynorm_ (a' := ?_) ?_ ?_
    rotate_left
    · show Act.put _ (some 34) _ = _
      simp only [Act.put, List.setIfInBounds_toArray, List.set_cons_zero, List.set_cons_succ, i64_w, i32_w]
      rfl
    refine Ypure_ (i := 9) (N := some 37) (v := ?_) (a' := ?_) #[true, true, true, true, true, true, true, true, true, true, false, false, false, false, false, false, false, false, false, false, false, false, false, false, false, false] rfl rfl (by kernel_rfl) (fun _ _ _ h => h) (Or.inl ⟨by rfl, ?_⟩) ?_ ?_
    rotate_left
    · intro w'
      go_simp
      with_reducible rfl
    rotate_left
    · simp only [Act.put, List.setIfInBounds_toArray, List.set_cons_zero, List.set_cons_succ, i64_w, i32_w]
      rfl
    refine Ypure_ (i := 10) (N := some 38) (v := ?_) (a' := ?_) #[true, true, true, true, true, true, true, true, true, true, true, false, false, false, false, false, false, false, false, false, false, false, false, false, false, false] rfl rfl (by kernel_rfl) (fun _ _ _ h => h) (Or.inl ⟨by rfl, ?_⟩) ?_ ?_
    rotate_left
    · intro w'
      go_simp
      with_reducible rfl
    rotate_left
    · simp only [Act.put, List.setIfInBounds_toArray, List.set_cons_zero, List.set_cons_succ, i64_w, i32_w]
      rfl
    refine Ypure_ (i := 11) (N := some 39) (v := ?_) (a' := ?_) #[true, true, true, true, true, true, true, true, true, true, true, true, false, false, false, false, false, false, false, false, false, false, false, false, false, false] rfl rfl (by kernel_rfl) (fun _ _ _ h => h) (Or.inl ⟨by rfl, ?_⟩) ?_ ?_
    rotate_left
    · intro w'
      go_simp
      with_reducible rfl
    rotate_left
    · simp only [Act.put, List.setIfInBounds_toArray, List.set_cons_zero, List.set_cons_succ, i64_w, i32_w]
      rfl
    refine Ytake_ (i := 12) (N := some 40) (v := ?_) (a' := ?_) #[true, true, true, true, true, true, true, true, true, true, true, true, true, false, false, false, false, false, false, false, false, false, false, false, false, false] rfl rfl (by kernel_rfl) (fun _ _ _ h => h) (Or.inl ⟨by rfl, ?_⟩) hHeld ?_ ?_
    rotate_left
    · rintro w' ⟨s0, s1, s2⟩
      go_simp
      with_reducible rfl
    rotate_left
    · simp only [Act.put, List.setIfInBounds_toArray, List.set_cons_zero, List.set_cons_succ, i64_w, i32_w]
      rfl
    refine Ytake_ (i := 14) (N := some 42) (v := ?_) (a' := ?_) #[true, true, true, true, true, true, true, true, true, true, true, true, true, false, true, false, false, false, false, false, false, false, false, false, false, false] rfl rfl (by kernel_rfl) (fun _ _ _ h => h) (Or.inl ⟨by rfl, ?_⟩) hHeld ?_ ?_
    rotate_left
    · rintro w' ⟨s0, s1, s2⟩
      go_simp
      with_reducible rfl
    rotate_left
    · simp only [Act.put, List.setIfInBounds_toArray, List.set_cons_zero, List.set_cons_succ, i64_w, i32_w]
      rfl
    refine Yone_ (i := 13) (N := some 41) #[true, true, true, true, true, true, true, true, true, true, true, true, true, true, true, false, false, false, false, false, false, false, false, false, false, false] rfl rfl (by kernel_rfl) (by decide) (fun K hK => ?_)
    refine Ygoes_ Try.func14 (by kernel_rfl) rfl #[.pointer (some ⟨p, 0, none⟩)] (by rfl) rfl rfl (by simp only [List.map_toArray, List.map_cons, List.map_nil]; rfl) (by first | exact .inl rfl | exact .inr ⟨_, rfl⟩) ?_
    with_reducible refine (used_calls w3 p s U bs (HH.out.below HT3.out)).mono ?_
    rintro e w4 ⟨rfl, hb4⟩
    refine ⟨_, rfl, ?_⟩
    have HB4x := Aside0.mk hb4
    have HT4 := Aside0.mk (bel_stepB HT3.out hb4)
    clear hb4
    refine hK.out _ _ ⟨(bel_cellB HB4x.out hHeld.1), (bel_cellB HB4x.out hHeld.2.1), (bel_cellB HB4x.out hHeld.2.2)⟩ (fun hHeld => ?_)
    clear hK K
    refine Ynorm_ (a' := ?_) ?_ ?_
    rotate_left
    · show Act.put _ (some 41) _ = _
      simp only [Act.put, List.setIfInBounds_toArray, List.set_cons_zero, List.set_cons_succ, i64_w, i32_w]
      rfl
    refine Yone_ (i := 15) (N := some 43) #[true, true, true, true, true, true, true, true, true, true, true, true, true, true, true, true, false, false, false, false, false, false, false, false, false, false] rfl rfl (by kernel_rfl) (by decide) (fun K hK => ?_)
    refine Ygoes_ Try.func38 (by kernel_rfl) rfl #[.slice A U c] (by rfl) rfl rfl (by simp only [List.map_toArray, List.map_cons, List.map_nil]; rfl) (by first | exact .inl rfl | exact .inr ⟨_, rfl⟩) ?_
    with_reducible refine (rused_calls (Kd.C_below HR.out HT4.out) hc hmU HH.out.ok).mono ?_
    rintro e w5 ⟨rfl, hb5⟩
    refine ⟨_, rfl, ?_⟩
    have HB5x := Aside0.mk hb5
    have HT5 := Aside0.mk (bel_stepB HT4.out hb5)
    clear hb5
    refine hK.out _ _ ⟨(bel_cellB HB5x.out hHeld.1), (bel_cellB HB5x.out hHeld.2.1), (bel_cellB HB5x.out hHeld.2.2)⟩ (fun hHeld => ?_)
    clear hK K
    refine Ynorm_ (a' := ?_) ?_ ?_
    rotate_left
    · show Act.put _ (some 43) _ = _
      simp only [Act.put, List.setIfInBounds_toArray, List.set_cons_zero, List.set_cons_succ, i64_w, i32_w]
      rfl
    refine Ypure_ (i := 16) (N := some 44) (v := ?_) (a' := ?_) #[true, true, true, true, true, true, true, true, true, true, true, true, true, true, true, true, true, false, false, false, false, false, false, false, false, false] rfl rfl (by kernel_rfl) (fun _ _ _ h => h) (Or.inl ⟨by rfl, ?_⟩) ?_ ?_
    rotate_left
    · intro w'
      go_simp
      with_reducible rfl
    rotate_left
    · simp only [Act.put, List.setIfInBounds_toArray, List.set_cons_zero, List.set_cons_succ, i64_w, i32_w]
      rfl
    refine Ypure_ (i := 17) (N := some 45) (v := ?_) (a' := ?_) #[true, true, true, true, true, true, true, true, true, true, true, true, true, true, true, true, true, true, false, false, false, false, false, false, false, false] rfl rfl (by kernel_rfl) (fun _ _ _ h => h) (Or.inl ⟨by rfl, ?_⟩) ?_ ?_
    rotate_left
    · intro w'
      go_simp
      with_reducible rfl
    rotate_left
    · simp only [Act.put, List.setIfInBounds_toArray, List.set_cons_zero, List.set_cons_succ, i64_w, i32_w]
      rfl
    refine Ypure_ (i := 18) (N := some 46) (v := ?_) (a' := ?_) #[true, true, true, true, true, true, true, true, true, true, true, true, true, true, true, true, true, true, true, false, false, false, false, false, false, false] rfl rfl (by kernel_rfl) (fun _ _ _ h => h) (Or.inl ⟨by rfl, ?_⟩) ?_ ?_
    rotate_left
    · intro w'
      go_simp
      with_reducible rfl
    rotate_left
    · simp only [Act.put, List.setIfInBounds_toArray, List.set_cons_zero, List.set_cons_succ, i64_w, i32_w]
      rfl
    refine Ytake_ (i := 19) (N := some 47) (v := ?_) (a' := ?_) #[true, true, true, true, true, true, true, true, true, true, true, true, true, true, true, true, true, true, true, true, false, false, false, false, false, false] rfl rfl (by kernel_rfl) (fun _ _ _ h => h) (Or.inl ⟨by rfl, ?_⟩) hHeld ?_ ?_
    rotate_left
    · rintro w' ⟨s0, s1, s2⟩
      go_simp
      with_reducible rfl
    rotate_left
    · simp only [Act.put, List.setIfInBounds_toArray, List.set_cons_zero, List.set_cons_succ, i64_w, i32_w]
      rfl
    refine Ytake_ (i := 21) (N := some 49) (v := ?_) (a' := ?_) #[true, true, true, true, true, true, true, true, true, true, true, true, true, true, true, true, true, true, true, true, false, true, false, false, false, false] rfl rfl (by kernel_rfl) (fun _ _ _ h => h) (Or.inl ⟨by rfl, ?_⟩) hHeld ?_ ?_
    rotate_left
    · rintro w' ⟨s0, s1, s2⟩
      go_simp
      with_reducible rfl
    rotate_left
    · simp only [Act.put, List.setIfInBounds_toArray, List.set_cons_zero, List.set_cons_succ, i64_w, i32_w]
      rfl
    refine Yone_ (i := 20) (N := some 48) #[true, true, true, true, true, true, true, true, true, true, true, true, true, true, true, true, true, true, true, true, true, true, false, false, false, false] rfl rfl (by kernel_rfl) (by decide) (fun K hK => ?_)
    refine Ygoes_ Try.func15 (by kernel_rfl) rfl #[.pointer (some ⟨p, 0, none⟩)] (by rfl) rfl rfl (by simp only [List.map_toArray, List.map_cons, List.map_nil]; rfl) (by first | exact .inl rfl | exact .inr ⟨_, rfl⟩) ?_
    with_reducible refine (largest_calls w5 p s U bs (HH.out.below HT5.out)).mono ?_
    rintro e w6 ⟨rfl, hb6⟩
    refine ⟨_, rfl, ?_⟩
    have HB6x := Aside0.mk hb6
    have HT6 := Aside0.mk (bel_stepB HT5.out hb6)
    clear hb6
    refine hK.out _ _ ⟨(bel_cellB HB6x.out hHeld.1), (bel_cellB HB6x.out hHeld.2.1), (bel_cellB HB6x.out hHeld.2.2)⟩ (fun hHeld => ?_)
    clear hK K
    refine Ynorm_ (a' := ?_) ?_ ?_
    rotate_left
    · show Act.put _ (some 48) _ = _
      simp only [Act.put, List.setIfInBounds_toArray, List.set_cons_zero, List.set_cons_succ, i64_w, i32_w]
      rfl
    refine Yone_ (i := 22) (N := some 50) #[true, true, true, true, true, true, true, true, true, true, true, true, true, true, true, true, true, true, true, true, true, true, true, false, false, false] rfl rfl (by kernel_rfl) (by decide) (fun K hK => ?_)
    refine Ygoes_ Try.func39 (by kernel_rfl) rfl #[.slice A U c] (by rfl) rfl rfl (by simp only [List.map_toArray, List.map_cons, List.map_nil]; rfl) (by first | exact .inl rfl | exact .inr ⟨_, rfl⟩) ?_
    with_reducible refine (rlarge_calls (Kd.C_below HR.out HT6.out) hc hmU HH.out.ok).mono ?_
    rintro e w7 ⟨rfl, hb7⟩
    refine ⟨_, rfl, ?_⟩
    have HB7x := Aside0.mk hb7
    have HT7 := Aside0.mk (bel_stepB HT6.out hb7)
    have HW7 := Aside0.mk (show Below W'.heap.size W' w7 from (Below.refl _ _).drew |> fun h => bel_stepB (bel_stepB (bel_stepB (bel_stepB (bel_stepB (bel_stepB h HB2x.out) HB3x.out) HB4x.out) HB5x.out) HB6x.out) hb7)
    have q2 := (HW7.out.block _ (blk_lt HK2.out)).trans HK2.out
    have d2 := blk_cell q2 (i := 0) rfl
    have f2 := blk_free q2 0
    have Q2 := Aside0.mk q2
    clear hb7 q2
    refine hK.out _ _ ⟨(bel_cellB HB7x.out hHeld.1), (bel_cellB HB7x.out hHeld.2.1), (bel_cellB HB7x.out hHeld.2.2)⟩ (fun hHeld => ?_)
    clear hK K
    refine Ynorm_ (a' := ?_) ?_ ?_
    rotate_left
    · show Act.put _ (some 50) _ = _
      simp only [Act.put, List.setIfInBounds_toArray, List.set_cons_zero, List.set_cons_succ, i64_w, i32_w]
      rfl
    refine Ypure_ (i := 23) (N := some 51) (v := ?_) (a' := ?_) #[true, true, true, true, true, true, true, true, true, true, true, true, true, true, true, true, true, true, true, true, true, true, true, true, false, false] rfl rfl (by kernel_rfl) (fun _ _ _ h => h) (Or.inl ⟨by rfl, ?_⟩) ?_ ?_
    rotate_left
    · intro w'
      go_simp
      with_reducible rfl
    rotate_left
    · simp only [Act.put, List.setIfInBounds_toArray, List.set_cons_zero, List.set_cons_succ, i64_w, i32_w]
      rfl
    refine Ypure_ (i := 24) (N := some 52) (v := ?_) (a' := ?_) #[true, true, true, true, true, true, true, true, true, true, true, true, true, true, true, true, true, true, true, true, true, true, true, true, true, false] rfl rfl (by kernel_rfl) (fun _ _ _ h => h) (Or.inl ⟨by rfl, ?_⟩) ?_ ?_
    rotate_left
    · intro w'
      go_simp
      with_reducible rfl
    rotate_left
    · simp only [Act.put, List.setIfInBounds_toArray, List.set_cons_zero, List.set_cons_succ, i64_w, i32_w]
      rfl
    refine Ylast_ (i := 25) (N := none) #[true, true, true, true, true, true, true, true, true, true, true, true, true, true, true, true, true, true, true, true, true, true, true, true, true, true] rfl rfl (by kernel_rfl) (by decide) (fun K hK => ?_)
    refine Yskip_ (w1 := ?_) (by rfl) rfl ?_ ?_
    rotate_left
    · go_simp
      rfl
    refine hK.out _ _ ?_
    clear hK K
    refine Ydone_ (by kernel_rfl) ?_
    clear hHeld d2 f2
    obtain ⟨V, hV⟩ : ∃ V, V = w7.setCell ⟨N + 1 + 1, 0, none⟩ (.bool true) := ⟨_, rfl⟩
    rw [← hV]
    have hz := HZ.out
    have hV2 : V = w7.setCell ⟨N + 2, 0, none⟩ (.bool true) := hV
    have HVB := Aside0.mk (show V.heap[N + 2]? = some (.cells #[.bool true] 4 (0, 0)) by rw [hV2]; have := blk_set Q2.out 0 (.bool true); simpa using this)
    have HDV := Aside0.mk (show V.heap[w1.heap.size]? = some (.deferred (some [])) by
      rw [hV2]
      exact blk_far ((HW7.out.block _ (blk_lt HD.out)).trans HD.out) _ (by simp only; omega))
    have HFV := Aside0.mk (show Fr (fun b => b = N + 2) w7 V by rw [hV2]; exact (Fr.refl (fun b => b = N + 2) w7).setCell (.inl rfl) _)
    clear hV hV2
    gi_wp2
    refine ⟨by simp, .inl ⟨_, _, rfl, run_takeDeferred HDV.out, ?_⟩⟩
    refine ⟨_, results_c1 rfl _ _ (N + 2) _ rfl ((World.putObj_heap_other (by omega)).trans HVB.out) Try.underlying4 rfl, rfl, ?_⟩
    have hn := HN.out
    have h7 := HT7.out
    have hb : Below w.heap.size w V := h7.trans (HFV.out.below _ h7.size (fun b hb => by omega))
    exact hb.trans (itB.put (by omega) HDV.out rfl)
  case stop => intro c M k W' _ _ _ h; exact h.elim
end Go.Proofs.Ytgendnoafemgpaa.Hand
namespace Go.Proofs.Ytgendnoafemgpaa.Hand
open Go.RowKit Go.Proofs.YtgendnoafemgpaaW.PrintWords

section
variable {α : Type} {encA : α → List Value} {sz : Nat} {hl : ∀ x, (encA x).length = sz} {h1 : ∀ x, ∀ u ∈ encA x, u.oneCell' = true}
theorem rows_of {w : World} {a : Addr} {k : Nat} {Wf : α → Prop} (hx : ∀ i, i < k → ∃ x : α, Wf x ∧ ∀ j, j < sz → w.cell? (a.add (i * sz + j)) = (encA x)[j]?) :
    ∃ L : List α, L.length = k ∧ ∀ i x, L[i]? = some x → Wf x ∧ ∀ j, j < sz → w.cell? (a.add (i * sz + j)) = (encA x)[j]? := by
  induction k with
  | zero => exact ⟨[], rfl, fun i x h => by simp at h⟩
  | succ k ih =>
    obtain ⟨L, hL, h⟩ := ih (fun i hi => hx i (by omega))
    obtain ⟨x, hw, hc⟩ := hx k (by omega)
    refine ⟨L ++ [x], by simp [hL], fun i y hy => ?_⟩
    by_cases hi : i < L.length
    · rw [List.getElem?_append_left hi] at hy
      exact h i y hy
    · have hik : i = L.length := by
        have := (List.getElem?_eq_some_iff.1 hy).1
        simp at this
        omega
      subst hik
      rw [List.getElem?_append_right (Nat.le_refl _)] at hy
      simp at hy
      subst hy
      rw [hL]
      exact ⟨hw, hc⟩
theorem add_add (a : Addr) (i j : Nat) : (a.add i).add j = a.add (i + j) := by
  unfold Addr.add
  split <;> split <;> simp_all <;> (try omega)
theorem open_flat {H : Type} {enc : TypeId × Value → H} {P : Program} {w : World} {spare : Nat → Bool} {held : Bool} {t e : TypeId} {A : Option Addr} {len cap : Nat} {d : DataW H} {ps : List MemPlace} {Wf : α → Prop}
    (ht : P.underlying t = some (.slice e)) (hsz : P.cellsOf e = sz) (hel : ∀ n cs y, DataW.trod enc P w 0 spare held n e cs = some y → ∃ x : α, cs = encA x ∧ Wf x)
    (h : DataW.Trod enc P w 0 spare held t (.slice A len cap) d ps) : ∃ L : List α, len = L.length ∧ (flat encA sz hl h1).C w A L.length L ∧ ∀ x ∈ L, Wf x := by
  obtain ⟨fuel, hf⟩ := h
  rcases Go.Deep.open_slice ht hf with ⟨hcs, _⟩ | ⟨a, l, c, m, n, D, Pl, hcs, _, hlc, hm, hmm, _, hx⟩
  · simp [Value.cells] at hcs
    obtain ⟨rfl, rfl, rfl⟩ := hcs
    exact ⟨[], rfl, ⟨rfl, by simp, fun h => absurd h (by simp)⟩, fun x hx => absurd hx (by simp)⟩
  · simp [Value.cells] at hcs
    obtain ⟨rfl, rfl, rfl⟩ := hcs
    have hlm : len ≤ m := by rw [hmm]; split <;> omega
    obtain ⟨L, hL, hLx⟩ := rows_of (w := w) (a := a) (k := len) (sz := sz) (encA := encA) (Wf := Wf) (fun i hi => by
      obtain ⟨cs', h2, h3⟩ := hx i (by omega)
      obtain ⟨x, rfl, hw⟩ := hel _ _ _ h3
      rw [hsz] at h2
      obtain ⟨_, _, hc⟩ := World.cells?_some h2
      exact ⟨x, hw, fun j hj => by rw [← add_add]; exact hc j hj⟩)
    refine ⟨L, hL.symm, ⟨rfl, by rw [hL]; simp only [maxLen] at hm; omega, fun _ => ⟨a, rfl, fun i x hix => ?_⟩⟩, fun x hx => ?_⟩
    · obtain ⟨_, hc⟩ := hLx i x hix
      refine ⟨encA x, hl x, rfl, fun j u hu => ?_⟩
      rw [← hu]
      exact hc j (by have := (List.getElem?_eq_some_iff.1 hu).1; rwa [hl] at this)
    · obtain ⟨i, hi⟩ := List.getElem?_of_mem hx
      exact (hLx i x hi).1
end
end Go.Proofs.Ytgendnoafemgpaa.Hand
namespace Go.Proofs.Ytgendnoafemgpaa.Hand
open Go.RowKit Go.Maps Go.Sort Go.Shelf Go.Proofs.YtgendnoafemgpaaW.PrintWords Go.Proofs.YtgendnoafemgpaaW.PrintLast Go.Proofs.Ytgendnoafemgpaa.PHandRB
set_option linter.unusedVariables false
set_option linter.unusedSimpArgs false
abbrev OpB := Int × Int × Int
def encB (o : OpB) : List Value := [.int .i64 o.1, .int .i64 o.2.1, .int .i64 o.2.2]
theorem encB_len (o : OpB) : (encB o).length = 3 := rfl
theorem encB_one (o : OpB) : ∀ u ∈ encB o, u.oneCell' = true := by
  intro u hu
  simp only [encB, List.mem_cons, List.not_mem_nil, or_false] at hu
  rcases hu with rfl | rfl | rfl <;> rfl
def OpBK : Kd OpB := flat encB 3 encB_len encB_one
def WfB (o : OpB) : Prop := I64 o.2.1 ∧ I64 o.2.2
theorem list3b {α : Type} {l : List α} (h : l.length = 3) : ∃ a b c, l = [a, b, c] := by
  match l, h with
  | [a, b, c], _ => exact ⟨a, b, c, rfl⟩
theorem opB_el {H : Type} {enc : TypeId × Value → H} {w : World} {spare : Nat → Bool} {held : Bool} : ∀ n cs y, DataW.trod enc Try.prog w 0 spare held n 29 cs = some y → ∃ x : OpB, cs = encB x ∧ WfB x := by
  intro n cs y h
  obtain ⟨y0, y1, y2, m, _, hlen, h0, h1, h2⟩ := Go.Deep.trod_struct3 Try.underlying29 h
  obtain ⟨a, b, c, rfl⟩ := list3b (hlen.trans (show Try.prog.cellsOf 29 = 3 by kernel_rfl))
  rw [show Try.prog.cellsOf 3 = 1 by kernel_rfl] at h0 h1 h2
  obtain ⟨q, e0, _, w0⟩ := DataW.trod_int Try.underlying3 h0
  obtain ⟨s, e1, _, w1⟩ := DataW.trod_int Try.underlying3 h1
  obtain ⟨g, e2, _, w2⟩ := DataW.trod_int Try.underlying3 h2
  simp at e0 e1 e2
  subst e0 e1 e2
  exact ⟨(q, s, g), rfl, wf_i64 w1, wf_i64 w2⟩
theorem open_opsB {H : Type} {enc : TypeId × Value → H} {w : World} {spare : Nat → Bool} {held : Bool} {A : Option Addr} {len cap : Nat} {d : DataW H} {ps : List MemPlace}
    (h : DataW.Trod enc Try.prog w 0 spare held 22 (.slice A len cap) d ps) : ∃ os : List OpB, len = os.length ∧ OpBK.C w A os.length os ∧ ∀ o ∈ os, WfB o :=
  open_flat Try.underlying22 (by kernel_rfl) opB_el h
def mkB (U : Nat) (bs : List Pc) (os : List OpB) : List Pc := os.foldl (fun bs o => (doR U bs o.1 o.2.1 o.2.2).1) bs
def fewB (U : Int) (n : Nat) : Bool := decide (n ≤ 60) && (decide (U ≤ 60) || decide (1024 < U))
theorem few_calls (w : World) (U : Int) (A : Option Addr) (n c : Nat) (hn : n ≤ 9223372036854775807) : Calls Try.prog 16 #[.int .i64 U, .slice A n c] w fun e w' => e = .returned (.bool (fewB U n)) ∧ w = w' := by
  go_enter Try.func16, Try.ntmps16
  by_cases h1 : n ≤ 60
  · by_cases h2 : U ≤ 60
    · have hf : fewB U n = true := by simp [fewB, h1, h2]
      rw [hf]
      go_wp2
      go_ret
      exact ⟨rfl, rfl⟩
    · have hf : fewB U n = decide (1024 < U) := by simp [fewB, h1, h2]
      rw [hf]
      go_wp2
      go_ret
      exact ⟨rfl, rfl⟩
  · have hf : fewB U n = false := by simp [fewB, h1]
    rw [hf]
    go_wp2
    go_ret
    exact ⟨rfl, rfl⟩
/-- The document's units lie where no call on the blocks writes. -/
def Ap (p s : Nat) (b : Nat) : Prop := b ≠ p ∧ b ≠ s
theorem Ri_keep {w w1 : World} {e base : Nat} {ok : Nat → Prop} {v : Value} {xs : List Int} (h : Kd.R (Kd.int .i64) e w base ok v xs) {s : Nat} (hm : ∃ es clock, w.heap[s]? = some (.map es clock)) (hf : Fr (fun b => b = s) w w1) : Kd.R (Kd.int .i64) e w1 base ok v xs := by
  obtain ⟨_, inner, ho, _⟩ := id h
  refine R_keep h (fun b hb => ?_)
  obtain ⟨cs, hc⟩ := own_typed ho b hb
  refine hf.block b (Array.getElem?_eq_some_iff.1 hc).1 (fun e => ?_)
  obtain ⟨es, clock, hs⟩ := hm
  rw [e, hs] at hc
  cases hc
theorem rdo_calls (w0 w : World) (hB : Below w0.heap.size w0 w) (p s U : Nat) (bs : List Pc) (h : HasB w p s U bs) (A : Option Addr) (c : Nat) (hr : Kd.R (Kd.int .i64) 3 w w0.heap.size (Ap p s) (.slice A U c) (occ U bs)) (kind a n : Int) (ha : I64 a) (hn : I64 n) :
    Calls Try.prog 34 #[.slice A U c, .agg #[.int .i64 kind, .int .i64 a, .int .i64 n]] w fun e w' => ∃ A2 c2, e = .returned (.tuple #[.slice A2 U c2, .int .i64 (doR U bs kind a n).2.1, .int .i64 (doR U bs kind a n).2.2]) ∧
      Kd.R (Kd.int .i64) 3 w' w0.heap.size (Ap p s) (.slice A2 U c2) (occ U (doR U bs kind a n).1) ∧ U ≤ c2 ∧ HasB w' p s U bs ∧ Below w0.heap.size w0 w' ∧ Fr (fun b => (Value.slice A U c).ownBlock = some b) w w' := by
  have hr2 : Kd.R (Kd.int .i64) 3 w w0.heap.size (fun b => (Value.slice A U c).ownBlock = some b) (.slice A U c) (occ U bs) := Kd.R_of_own (by
    obtain ⟨_, inner, ho, _⟩ := id hr
    exact Kd.own_of_R hr) (fun b hb => hb)
  refine (ecdysisref10_Do.calls 6000 (fun b => (Value.slice A U c).ownBlock = some b) (.slice A U c) (occ U bs) kind a n _ _ _ w0 w hB hr2 (do_f h.max h.ok kind a n ha hn 6000 (Nat.le_refl _))).mono ?_
  rintro e w' ⟨v, rfl, hrv, hb, hk⟩
  have hfr : Fr (fun b => (Value.slice A U c).ownBlock = some b) w w' := ⟨hb.os.trans hB.os.symm, hb.tape.trans hB.tape.symm, hb.output.trans hB.output.symm, hk.1, fun b hbl hn => hk.2 b hbl hn⟩
  have hap : ∀ b, (Value.slice A U c).ownBlock = some b → Ap p s b := hr.1
  obtain ⟨A2, c2, rfl, hc2, _⟩ := Kd.R_reads hrv
  rw [occ_len] at hrv hc2 ⊢
  refine ⟨A2, c2, rfl, Kd.R_mono hrv (fun b hb => ?_), hc2, h.fr hfr (fun e => (hap _ e).1 rfl) (fun e => (hap _ e).2 rfl), hb, hfr⟩
  rcases hb with hb | hb
  · exact hap b hb
  · have := h.p_lt
    have := h.s_lt
    exact ⟨by omega, by omega⟩
/-- What made leaves. -/
def MadeB (w : World) (U : Nat) (bs : List Pc) (e : Ending) (w' : World) : Prop :=
  ∃ (p s : Nat) (A : Option Addr) (c : Nat), e = .returned (.tuple #[.pointer (some ⟨p, 0, none⟩), .slice A U c, .bool true]) ∧ HasB w' p s U bs ∧ Kd.R (Kd.int .i64) 3 w' w.heap.size (Ap p s) (.slice A U c) (occ U bs) ∧ U ≤ c ∧ w.heap.size ≤ p ∧ w.heap.size ≤ s ∧ Below w.heap.size w w'
theorem occ_nil (U : Nat) : occ U [] = List.replicate U 0 := by
  apply List.ext_getElem
  · simp [occ]
  · intro i h1 h2
    simp [occ, own]
theorem rnew_calls (w : World) (U : Nat) (hU : U ≤ 1024) : Calls Try.prog 33 #[.int .i64 (U : Int)] w fun e w' => ∃ A c, e = .returned (.tuple #[.slice A U c, .bool true]) ∧ Kd.R (Kd.int .i64) 3 w' w.heap.size (fun _ => True) (.slice A U c) (occ U []) ∧ U ≤ c ∧ Below w.heap.size w w' := by
  have hf : ecdysisref10_New.f (U : Int) = some (occ U [], true) := by
    rw [ecdysisref10_New.f, if_neg (by omega), if_neg (by omega), if_pos (by omega), if_pos (by omega), Int.toNat_natCast, occ_nil]
  refine (ecdysisref10_New.calls U _ _ w hf).mono ?_
  rintro e w' ⟨v, rfl, hr, hb⟩
  obtain ⟨A, c, rfl, hc, _⟩ := Kd.R_reads hr
  rw [occ_len] at hr hc ⊢
  exact ⟨A, c, rfl, hr, hc, hb⟩
theorem R_C {w : World} {e base : Nat} {ok : Nat → Prop} {A : Option Addr} {U c : Nat} {bs : List Pc} (h : Kd.R (Kd.int .i64) e w base ok (.slice A U c) (occ U bs)) : Kd.C (Kd.int .i64) w A U (occ U bs) := by
  obtain ⟨A2, c2, e2, _, hC⟩ := Kd.R_reads h
  simp only [Value.slice.injEq] at e2
  obtain ⟨rfl, -, rfl⟩ := e2
  rw [occ_len] at hC
  exact hC
theorem R_step {w w1 : World} {e base : Nat} {ok : Nat → Prop} {v : Value} {xs : List Int} (h : Kd.R (Kd.int .i64) e w base ok v xs) (hb : Below w.heap.size w w1) : Kd.R (Kd.int .i64) e w1 base ok v xs := R_keep h (fun b hb' => hb.block b (R_base h hb').2)
set_option maxRecDepth 100000 in
set_option maxHeartbeats 8000000 in
theorem made_calls (w : World) (U : Nat) (hU : U ≤ 1024) (B : Option Addr) (d : Nat) (os : List OpB) (ho : OpBK.C w B os.length os) (hwo : ∀ o ∈ os, WfB o) (hol : os.length ≤ 65536) :
    Calls Try.prog 17 #[.int .i64 (U : Int), .slice B os.length d] w (MadeB w U (mkB U [] os)) := by
  have HO := Aside0.mk ho
  have HWO := Aside0.mk hwo
  clear ho hwo
  go_enter Try.func17, Try.ntmps17
  go_wp2_with (first | (go_at_call 10; (with_reducible refine (new_good w U hU).mono ?_); rintro e w1 ⟨p, s, rfl, hb1, hbw1, hp1, hs1⟩; have HH1 := Aside0.mk hb1; have HB1 := Aside0.mk hbw1; have HP := Aside0.mk hp1; have HS := Aside0.mk hs1; clear hb1 hbw1 hp1 hs1) | (go_at_call 33; (with_reducible refine (rnew_calls w1 U hU).mono ?_); rintro e w2 ⟨A, c, rfl, hr2, hc2, hb2⟩; have HH2 := Aside0.mk (HH1.out.below hb2); have HB2 := Aside0.mk (bel_stepB HB1.out hb2); have HR2 := Aside0.mk hr2; have HCC := Aside0.mk hc2; clear hr2 hb2 hc2))
  have hp2 := HH2.out.p_lt
  have HRA := Aside0.mk (show Kd.R (Kd.int .i64) 3 w2 w.heap.size (Ap p s) (.slice A U c) (occ U []) from by
    refine Kd.R_of_own ?_ (fun b hb => ?_)
    · have h1 := Kd.own_of_R HR2.out
      exact ownsRow_base_a h1 HB1.out.size
    · have h2 := R_base HR2.out hb
      have h3 := HH1.out.p_lt
      have h4 := HH1.out.s_lt
      exact ⟨by omega, by omega⟩)
  clear hp2
  go_loopw [9, 40] (fun lv i wr => ∃ (k : Nat) (bs : List Pc) (Ak : Option Addr) (ck : Nat), k ≤ os.length ∧ i = .int .i64 k ∧ lv = .slice Ak U ck ∧ Aside0 (bs = mkB U [] (os.take k)) ∧ Aside0 (HasB wr p s U bs) ∧ Aside0 (Kd.R (Kd.int .i64) 3 wr w.heap.size (Ap p s) (.slice Ak U ck) (occ U bs)) ∧ Aside0 (U ≤ ck) ∧ Aside0 (Below w.heap.size w wr)) (fun _ i _ => (os.length - intOf i).toNat)
  case atStart => exact ⟨0, [], A, c, Nat.zero_le _, rfl, rfl, ⟨by rw [List.take_zero]; rfl⟩, HH2, HRA, HCC, HB2⟩
  case round =>
    obtain ⟨k, bs, Ak, ck, hk, rfl, rfl, HE, HH, HRk, HCk, HB⟩ := hrel
    clear HH2 HRA HCC HB2 HR2 HH1
    by_cases hlt : k < os.length
    · obtain ⟨o, hx⟩ : ∃ o, os[k]? = some o := ⟨_, List.getElem?_eq_getElem hlt⟩
      obtain ⟨bb, ob, hB, hcb⟩ := C_at (Kd.C_below HO.out HB.out) (by decide) hx
      subst hB
      have HX := Aside0.mk (show os.take (k + 1) = os.take k ++ [o] by rw [List.take_add_one, hx]; rfl)
      obtain ⟨hwa, hwn⟩ := HWO.out o (List.mem_of_getElem? hx)
      have HWA := Aside0.mk hwa
      have HWN := Aside0.mk hwn
      obtain ⟨q, a, n⟩ := o
      have b0 : wr.cell? ⟨bb, ob + k * 3, none⟩ = some (.int .i64 q) := hcb 0 (by decide)
      have b1 : wr.cell? ⟨bb, ob + k * 3 + 1, none⟩ = some (.int .i64 a) := hcb 1 (by decide)
      have b2 : wr.cell? ⟨bb, ob + k * 3 + 2, none⟩ = some (.int .i64 n) := hcb 2 (by decide)
      clear hcb hx hwa hwn
      obtain ⟨⟨bn, vv, ee⟩, hr⟩ : ∃ r, r = doR U bs q a n := ⟨_, rfl⟩
      have HDO := Aside0.mk hr
      clear hr
      go_wp2_with (first | (go_at_call 34; (with_reducible refine (rdo_calls w _ (below_alloc HB.out _) p s U bs (HH.out.below (below_alloc (Below.refl _ _) _)) Ak ck (R_step HRk.out (below_alloc (Below.refl _ _) _)) q a n HWA.out HWN.out).mono ?_); rw [← HDO.out]; rintro e w4 ⟨A4, c4, rfl, hr4, hc4, hh4, hb4, hf4⟩; have HB4 := Aside0.mk hb4; have HH4 := Aside0.mk hh4; have HR4 := Aside0.mk hr4; have HC4 := Aside0.mk hc4; have hob := hf4.get (heap_alloc_new wr _) (fun e => Nat.lt_irrefl _ (R_base HRk.out e).2); have o0 := blk_cell hob (i := 0) rfl; have o1 := blk_cell hob (i := 1) rfl; have o2 := blk_cell hob (i := 2) rfl; clear hr4 hb4 hob hc4 hh4 hf4) | (go_at_call 12; (with_reducible refine (does_calls _ p s U bs HH4.out q a n HWA.out HWN.out).mono ?_); rw [← HDO.out]; rintro e w5 ⟨rfl, hh5, hf5⟩; have HH5 := Aside0.mk hh5; have HR5 := Aside0.mk (Ri_keep HR4.out HH4.out.map.blk hf5); have HB5 := Aside0.mk (HB4.out.trans (hf5.below _ HB4.out.size (fun b (hb : b = s) => by rw [hb]; exact HS.out))); clear hh5 hf5) | (go_at_call 21; (with_reducible refine (stands_calls _ p s U bn HH5.out A4 c4 (R_C HR5.out) HC4.out).mono ?_); rintro e w6 ⟨rfl, hb6⟩; have HB6 := Aside0.mk (bel_stepB HB5.out hb6); have HH6 := Aside0.mk (HH5.out.below hb6); have HR6 := Aside0.mk (R_step HR5.out hb6); clear hb6))
      trace_state
      refine ⟨⟨k + 1, bn, A4, c4, by omega, by go_num, rfl, ⟨?_⟩, HH6, HR6, HC4, HB6⟩, by simp [intOf]; omega⟩
      rw [HX.out, mkB, List.foldl_append, show List.foldl _ [] (os.take k) = bs from HE.out.symm]
      exact congrArg (fun r => r.1) HDO.out
    · obtain rfl : k = os.length := by omega
      rw [List.take_length] at HE
      go_wp2
      go_ret3
      exact ⟨p, s, _, _, rfl, HE.out ▸ HH.out, HE.out ▸ HRk.out, HCk.out, HP.out, HS.out, HB.out⟩
end Go.Proofs.Ytgendnoafemgpaa.Hand
namespace Go.Proofs.Ytgendnoafemgpaa.Hand
open Go.RowKit Go.Maps Go.Proofs.YtgendnoafemgpaaW.PrintWords
set_option linter.unusedVariables false
set_option linter.unusedSimpArgs false
theorem fewB_of {U : Int} {n : Nat} (h : fewB U n = true) : n ≤ 60 ∧ (U ≤ 60 ∨ 1024 < U) := by
  simp only [fewB, Bool.and_eq_true, Bool.or_eq_true, decide_eq_true_eq] at h
  exact h
theorem ops_len {w : World} {B : Option Addr} {os : List OpB} (h : OpBK.C w B os.length os) : os.length ≤ 9223372036854775807 := h.2.1
end Go.Proofs.Ytgendnoafemgpaa.Hand
namespace Go.Proofs.Ytgendnoafemgpaa.Hand
open Go.RowKit Go.Maps Go.Proofs.YtgendnoafemgpaaW.PrintWords
set_option linter.unusedVariables false
set_option linter.unusedSimpArgs false
end Go.Proofs.Ytgendnoafemgpaa.Hand
namespace Go.Proofs.Ytgendnoafemgpaa.Hand
open Go.RowKit Go.Maps Go.Proofs.YtgendnoafemgpaaW.PrintWords
set_option linter.unusedVariables false
set_option linter.unusedSimpArgs false
end Go.Proofs.Ytgendnoafemgpaa.Hand
namespace Go.Proofs.Ytgendnoafemgpaa.Hand
open Go.ChangeShapes Go.WideShapes Go.ChangeAt Go.RowKit Go.Maps Go.Proofs.YtgendnoafemgpaaW.PrintWords
set_option linter.unusedVariables false
set_option linter.unusedSimpArgs false
end Go.Proofs.Ytgendnoafemgpaa.Hand
namespace Go.Proofs.Ytgendnoafemgpaa.Hand
attribute [local go_sem] Oper.semAt_some
open Go.RowKit Go.Maps Go.Sort Go.Shelf Go.Proofs.YtgendnoafemgpaaW.PrintWords Go.Proofs.YtgendnoafemgpaaW.PrintLast Go.Proofs.Ytgendnoafemgpaa.PHandRB
set_option linter.unusedVariables false
set_option linter.unusedSimpArgs false
set_option maxRecDepth 100000 in
set_option maxHeartbeats 4000000 in
theorem each_bad (U : Int) (B B2 : Option Addr) (d d2 : Nat) (os os2 : List OpB) (w : World) (hwU : -9223372036854775808 ≤ U ∧ U ≤ 9223372036854775807) (hln : os.length ≤ 9223372036854775807) (hln2 : os2.length ≤ 9223372036854775807) (hb : fewB U os.length = false ∨ fewB U os2.length = false ∨ U < 0 ∨ 60 < U) :
    Calls Try.prog 8 #[.int .i64 U, .slice B os.length d, .slice B2 os2.length d2] w fun e w' => e = .returned (.bool true) ∧ Below w.heap.size w w' := by
  cases hf : fewB U os.length with
  | false =>
    have HF := Aside0.mk hf
    clear hf hb
    go_enter Try.func8, Try.ntmps8
    go_wp2_with (first | (go_at_call 16; (with_reducible refine (few_calls _ _ B _ d hln).mono ?_); rw [HF.out]; rintro e wF ⟨rfl, rfl⟩) | (go_at_call 11; (with_reducible refine (bk_alive _).mono ?_); rintro e wA ⟨rfl, hbA⟩; have HBA := Aside0.mk (bel_stepB (below_alloc (below_alloc (Below.refl w.heap.size w) _) _) hbA); have q6 := (hbA.block (w.heap.size + 1) (by simp)).trans (alloc_two w _ _); have e6 := blk_cell q6 (i := 0) rfl; have f6 := blk_free q6 0; have Q6 := Aside0.mk q6; clear hbA q6))
    (obtain ⟨V, hV⟩ : ∃ V, V = wA.setCell ⟨w.heap.size + 1, 0, none⟩ (.bool true) := ⟨_, rfl⟩; rw [← hV]; have hVB : V.heap[w.heap.size + 1]? = some (.cells #[.bool true] 4 (0, 0)) := (by rw [hV]; have := blk_set Q6.out 0 (.bool true); simpa using this); have hWV : Below w.heap.size w V := (by rw [hV]; exact HBA.out.setCell (p := ⟨w.heap.size + 1, 0, none⟩) (by simp) _); refine bodyPost_ret (results_c1 rfl _ _ (w.heap.size + 1) _ rfl hVB Try.underlying4 rfl) rfl ⟨rfl, hWV⟩)
  | true =>
    cases hf2 : fewB U os2.length with
    | false =>
      have HF := Aside0.mk hf
      have HF2 := Aside0.mk hf2
      clear hf hf2 hb
      go_enter Try.func8, Try.ntmps8
      go_wp2_with (first | (go_at_call 16; (with_reducible refine (few_calls _ _ B _ d hln).mono ?_); rw [HF.out]; rintro e wF ⟨rfl, rfl⟩) | (go_at_call 16; (with_reducible refine (few_calls _ _ B2 _ d2 hln2).mono ?_); rw [HF2.out]; rintro e wF ⟨rfl, rfl⟩) | (go_at_call 11; (with_reducible refine (bk_alive _).mono ?_); rintro e wA ⟨rfl, hbA⟩; have HBA := Aside0.mk (bel_stepB (below_alloc (below_alloc (Below.refl w.heap.size w) _) _) hbA); have q6 := (hbA.block (w.heap.size + 1) (by simp)).trans (alloc_two w _ _); have e6 := blk_cell q6 (i := 0) rfl; have f6 := blk_free q6 0; have Q6 := Aside0.mk q6; clear hbA q6))
      (obtain ⟨V, hV⟩ : ∃ V, V = wA.setCell ⟨w.heap.size + 1, 0, none⟩ (.bool true) := ⟨_, rfl⟩; rw [← hV]; have hVB : V.heap[w.heap.size + 1]? = some (.cells #[.bool true] 4 (0, 0)) := (by rw [hV]; have := blk_set Q6.out 0 (.bool true); simpa using this); have hWV : Below w.heap.size w V := (by rw [hV]; exact HBA.out.setCell (p := ⟨w.heap.size + 1, 0, none⟩) (by simp) _); refine bodyPost_ret (results_c1 rfl _ _ (w.heap.size + 1) _ rfl hVB Try.underlying4 rfl) rfl ⟨rfl, hWV⟩)
    | true =>
      have hbad : U < 0 ∨ 60 < U := by rw [hf, hf2] at hb; simpa using hb
      have HF := Aside0.mk hf
      have HF2 := Aside0.mk hf2
      clear hf hf2 hb
      by_cases h0 : U < 0
      · clear hbad
        go_enter Try.func8, Try.ntmps8
        go_wp2_with (first | (go_at_call 16; (with_reducible refine (few_calls _ _ B _ d hln).mono ?_); rw [HF.out]; rintro e wF ⟨rfl, rfl⟩) | (go_at_call 16; (with_reducible refine (few_calls _ _ B2 _ d2 hln2).mono ?_); rw [HF2.out]; rintro e wF ⟨rfl, rfl⟩) | (go_at_call 11; (with_reducible refine (bk_alive _).mono ?_); rintro e wA ⟨rfl, hbA⟩; have HBA := Aside0.mk (bel_stepB (below_alloc (below_alloc (Below.refl w.heap.size w) _) _) hbA); have q6 := (hbA.block (w.heap.size + 1) (by simp)).trans (alloc_two w _ _); have e6 := blk_cell q6 (i := 0) rfl; have f6 := blk_free q6 0; have Q6 := Aside0.mk q6; clear hbA q6))
        (obtain ⟨V, hV⟩ : ∃ V, V = wA.setCell ⟨w.heap.size + 1, 0, none⟩ (.bool true) := ⟨_, rfl⟩; rw [← hV]; have hVB : V.heap[w.heap.size + 1]? = some (.cells #[.bool true] 4 (0, 0)) := (by rw [hV]; have := blk_set Q6.out 0 (.bool true); simpa using this); have hWV : Below w.heap.size w V := (by rw [hV]; exact HBA.out.setCell (p := ⟨w.heap.size + 1, 0, none⟩) (by simp) _); refine bodyPost_ret (results_c1 rfl _ _ (w.heap.size + 1) _ rfl hVB Try.underlying4 rfl) rfl ⟨rfl, hWV⟩)
      · have h6 : 60 < U := by omega
        clear hbad
        go_enter Try.func8, Try.ntmps8
        go_wp2_with (first | (go_at_call 16; (with_reducible refine (few_calls _ _ B _ d hln).mono ?_); rw [HF.out]; rintro e wF ⟨rfl, rfl⟩) | (go_at_call 16; (with_reducible refine (few_calls _ _ B2 _ d2 hln2).mono ?_); rw [HF2.out]; rintro e wF ⟨rfl, rfl⟩) | (go_at_call 11; (with_reducible refine (bk_alive _).mono ?_); rintro e wA ⟨rfl, hbA⟩; have HBA := Aside0.mk (bel_stepB (below_alloc (below_alloc (Below.refl w.heap.size w) _) _) hbA); have q6 := (hbA.block (w.heap.size + 1) (by simp)).trans (alloc_two w _ _); have e6 := blk_cell q6 (i := 0) rfl; have f6 := blk_free q6 0; have Q6 := Aside0.mk q6; clear hbA q6))
        (obtain ⟨V, hV⟩ : ∃ V, V = wA.setCell ⟨w.heap.size + 1, 0, none⟩ (.bool true) := ⟨_, rfl⟩; rw [← hV]; have hVB : V.heap[w.heap.size + 1]? = some (.cells #[.bool true] 4 (0, 0)) := (by rw [hV]; have := blk_set Q6.out 0 (.bool true); simpa using this); have hWV : Below w.heap.size w V := (by rw [hV]; exact HBA.out.setCell (p := ⟨w.heap.size + 1, 0, none⟩) (by simp) _); refine bodyPost_ret (results_c1 rfl _ _ (w.heap.size + 1) _ rfl hVB Try.underlying4 rfl) rfl ⟨rfl, hWV⟩)
/-- What the loop over the blocks holds. -/
structure EaI (N L V : Nat) (bs : List Pc) (wx : World) (k : Nat) (W : World) : Prop where
  ex : ∃ e : Nat, Chain e (bs.drop k) V ∧ W.heap[N]? = some (.cells #[.int .i64 (e : Int)] 3 (0, 0))
  n : W.heap[N + 1]? = some (.cells #[.int .i64 (k : Int)] 3 (0, 0))
  lt : k < L ∨ L = 0
  fr : Fr (fun b => b = N ∨ b = N + 1) wx W
/-- What it leaves with. -/
def EaX (N L V n : Nat) (wx : World) (W : World) : Prop := ∃ e m : Nat, e ≤ V ∧ (m = L ∨ m = n) ∧ W.heap[N]? = some (.cells #[.int .i64 (e : Int)] 3 (0, 0)) ∧ W.heap[N + 1]? = some (.cells #[.int .i64 (m : Int)] 3 (0, 0)) ∧ Fr (fun b => b = N ∨ b = N + 1) wx W
theorem Chain.le {bs : List Pc} {e U : Nat} (h : Chain e bs U) : e ≤ U := by
  induction bs generalizing e with
  | nil => exact h
  | cons q l ih => have := ih h.2.2; have := h.1; omega
theorem two_sets {W : World} {N : Nat} {x y : Value} {t t2 : TypeId} (h1 : W.heap[N]? = some (.cells #[x] t (0, 0))) (h2 : W.heap[N + 1]? = some (.cells #[y] t2 (0, 0))) (x2 y2 : Value) :
    ((W.setCell ⟨N, 0, none⟩ x2).setCell ⟨N + 1, 0, none⟩ y2).heap[N]? = some (.cells #[x2] t (0, 0)) ∧ ((W.setCell ⟨N, 0, none⟩ x2).setCell ⟨N + 1, 0, none⟩ y2).heap[N + 1]? = some (.cells #[y2] t2 (0, 0)) ∧
      Fr (fun b => b = N ∨ b = N + 1) W ((W.setCell ⟨N, 0, none⟩ x2).setCell ⟨N + 1, 0, none⟩ y2) := by
  refine ⟨?_, ?_, ((Fr.refl _ W).setCell (.inl (.inl rfl)) _).setCell (.inl (.inr rfl)) _⟩
  · have := blk_far (blk_set h1 0 x2) (a := ⟨N + 1, 0, none⟩) y2 (by simp)
    simpa using this
  · have := blk_set (blk_far h2 (a := ⟨N, 0, none⟩) x2 (by simp)) 0 y2
    simpa using this
/-- A range whose rounds leave by the break alone. -/
theorem range_break {P : Program} {n id : Nat} {α : Type} {G : Nat → World → World → Prop} (g : ItR G) {g0 : Operand} {ps : Array Tmp} {assign body : Code} {K : Act → World → Prop} {Q : Exit → Act → World → Prop} {a : Act} {w w0 : World} {gf : Nat} {lb : Array Value} (hg : a.eval g0 = .func (.func gf) #[] lb)
    (eg : ∀ args w, (callFunc gf args).run P w = .ok (.enter gf args) w) {xs : List α} {enc : α → Array Value} {S : Nat → Prop} (hseq : SeqL G P gf lb (xs.map enc) S w0) (hb0 : Below w0.heap.size w0 w) (hS : ∀ b, S b → b < w.heap.size) (hps : ∀ x, (enc x).size = ps.size)
    (I0 : World → Prop) (I : Nat → World → Prop) (Ix : Nat → World → Prop)
    (hI0 : ∀ A B, w.heap.size ≤ A.heap.size → I0 A → G w.heap.size A B → I0 B) (hI : ∀ k A B, w.heap.size ≤ A.heap.size → I k A → G w.heap.size A B → I k B) (hIx : ∀ k A B, w.heap.size ≤ A.heap.size → Ix k A → G w.heap.size A B → Ix k B)
    (hstart : ∀ W, I0 W → I 0 W) (h0 : I0 w) (a₁ : α → Act)
    (hassign : ∀ (l : Nat) (x : α) (W : World) (K : Act → World → Prop), K (a₁ x) W → assign.wpIn (Fence.wide.inRound l) (n - 1 - 1) P (Exit.then K (fun _ _ _ => False)) { tmps := (ps.zip (enc x)).foldl (fun t (p, v) => t.setIfInBounds p v) a.tmps, defers := [] } W)
    (hbody : ∀ (l M k : Nat) (x : α) (W : World), xs[k]? = some x → w.heap.size + 2 ≤ M → M ≤ W.heap.size → I k W → body.wpIn (Fence.wide.inRound l) (n - 1 - 1) P (roundL w.heap.size M S (fun _ => I) (fun c _ k W => c = .exit id ∧ Ix k W) k W) (a₁ x) W)
    (hend : ∀ (W : World), w.heap.size + 2 ≤ W.heap.size → (I xs.length W ∨ ∃ k, k < xs.length ∧ Ix k W) → W.heap[w.heap.size]? = some (.deferred (some [])) → K { a with defers := { target := .collected w.heap.size, args := #[] } :: a.defers } W) :
    (Code.rangeFunc g0 ps assign body).wpIn Fence.wide n P (Exit.inBlock id (Exit.then K Q)) a w := by
  refine range_listA g hg eg hseq hb0 hS hps I0 (fun _ => I) (fun c _ k W => c = .exit id ∧ Ix k W) hI0 (fun M => hI) (fun c M k A B hA h hg => ⟨h.1, hIx k A B hA h.2 hg⟩) (fun _ W _ _ h => hstart W h) h0 a₁ hassign hbody ?_ ?_
  · intro M W h1 h2 h3 h4
    exact hend W (by omega) (.inl h3) h4
  · rintro c M k W hk h1 h2 ⟨rfl, hx⟩ h4
    refine wpIn_exit ?_
    simp only [Exit.inBlock, if_pos]
    exact hend W h2 (.inr ⟨k, hk, hx⟩) h4
set_option maxRecDepth 100000 in
set_option maxHeartbeats 8000000 in
theorem blocksEach_walk (U : Int) (B : Option Addr) (d : Nat) (os : List OpB) (B2 : Option Addr) (d2 : Nat) (os2 : List OpB) (w : World) (hU : (Lit.int .i64 U).wf = true) (ho : OpBK.C w B os.length os) (hwo : ∀ o ∈ os, WfB o) (ho2 : OpBK.C w B2 os2.length os2) (hwo2 : ∀ o ∈ os2, WfB o) :
    Calls Try.prog 8 #[.int .i64 U, .slice B os.length d, .slice B2 os2.length d2] w fun e w' => e = .returned (.bool true) ∧ Below w.heap.size w w' := by
  have hln := ops_len ho
  have hln2 := ops_len ho2
  have hwU := wf_i64 hU
  by_cases hb : fewB U os.length = false ∨ fewB U os2.length = false ∨ U < 0 ∨ 60 < U
  · exact each_bad U B B2 d d2 os os2 w hwU hln hln2 hb
  have hf : fewB U os.length = true := by by_cases h : fewB U os.length = true; exact h; exact absurd (.inl (by simpa using h)) hb
  have hf2 : fewB U os2.length = true := by by_cases h : fewB U os2.length = true; exact h; exact absurd (.inr (.inl (by simpa using h))) hb
  have hn0 : ¬ U < 0 := fun h => hb (.inr (.inr (.inl h)))
  have hn6 : ¬ 60 < U := fun h => hb (.inr (.inr (.inr h)))
  have HF := Aside0.mk hf
  have HF2 := Aside0.mk hf2
  obtain ⟨h1, h2⟩ := fewB_of hf
  obtain ⟨h3, h4⟩ := fewB_of hf2
  obtain ⟨V, rfl⟩ : ∃ V : Nat, U = V := ⟨U.toNat, by omega⟩
  obtain ⟨wb, hwb⟩ : ∃ wb, wb = (w.alloc (.cells #[.slice B2 os2.length d2] 22)).alloc (.cells #[.bool false] 4) := ⟨_, rfl⟩
  have HWB := Aside0.mk hwb
  have HW0 := Aside0.mk (show Below w.heap.size w wb by rw [hwb]; exact below_alloc (below_alloc (Below.refl _ _) _) _)
  have hz0 : wb.heap.size = w.heap.size + 2 := by rw [hwb]; simp
  have HZ0 := Aside0.mk hz0
  have hk5 : wb.heap[w.heap.size]? = some (.cells #[.slice B2 os2.length d2] 22 (0, 0)) := by rw [hwb]; exact old_blk (heap_alloc_new w _) _
  have hk6 : wb.heap[w.heap.size + 1]? = some (.cells #[.bool false] 4 (0, 0)) := by rw [hwb]; exact alloc_two w _ _
  have K5 := Aside0.mk hk5
  have K6 := Aside0.mk hk6
  have c5 := blk_cell hk5 (i := 0) rfl
  have HM := Aside0.mk (made_calls wb V (by omega) B d os (Kd.C_below ho HW0.out) hwo (by omega))
  have HO2 := Aside0.mk ho2
  have HWO2 := Aside0.mk hwo2
  obtain ⟨bs, hbs⟩ : ∃ bs, bs = mkB V [] os := ⟨_, rfl⟩
  rw [← hbs] at HM
  clear ho hwo ho2 hwo2 hf hf2 hbs h2 h4 hwb hz0 hk5 hk6 hb
  refine (callsIn_wide (n := 15)).1 ?_
  refine callsIn_of_wp_marks Try.func8 rfl trivial ?_ rfl
  simp only [Try.ntmps8, List.size_toArray, List.length_cons, List.length_nil, Nat.reduceAdd, Nat.reduceSub, Array.replicate_succ, Array.replicate_zero, List.push_toArray, List.append_toArray, List.nil_append, List.cons_append]
  refine wpIn_wide.2 ?_
  go_wp2_with (first | (go_at_call 16; rw [← HWB.out]; (with_reducible refine (few_calls _ _ B _ d hln).mono ?_); rw [HF.out]; rintro e wF ⟨rfl, rfl⟩) | (go_at_call 16; (with_reducible refine (few_calls _ _ B _ d hln).mono ?_); rw [HF.out]; rintro e wF ⟨rfl, rfl⟩) | (go_at_call 16; (with_reducible refine (few_calls _ _ B2 _ d2 hln2).mono ?_); rw [HF2.out]; rintro e wF ⟨rfl, rfl⟩) | (go_at_call 17; (with_reducible refine HM.out.mono ?_); rintro e w1 ⟨p, s, A, c, rfl, hh1, hr1, hc1, hp1, hs1, hb1⟩; have HH1 := Aside0.mk hh1; have HR1 := Aside0.mk hr1; have HC1 := Aside0.mk hc1; have HP1 := Aside0.mk hp1; have HS1 := Aside0.mk hs1; have HB1 := Aside0.mk hb1; have HT1 := Aside0.mk (bel_stepB HW0.out hb1); have k5 := (hb1.block _ (blk_lt K5.out)).trans K5.out; have k6 := (hb1.block _ (blk_lt K6.out)).trans K6.out; have L5 := Aside0.mk k5; have L6 := Aside0.mk k6; clear hh1 hr1 hc1 hp1 hs1 hb1 k5 k6) | (go_at_call 23; (with_reducible refine (copy_calls _ p s V bs HH1.out).mono ?_); rintro e w2 ⟨q, t, rfl, hh2, hb2, hq2, ht2⟩; have HH2 := Aside0.mk hh2; have HB2 := Aside0.mk hb2; have HQ2 := Aside0.mk hq2; have HTT2 := Aside0.mk ht2; have m5 := (hb2.block _ (blk_lt L5.out)).trans L5.out; have o5 := blk_cell m5 (i := 0) rfl; clear hh2 hb2 hq2 ht2 m5))
  go_loopw [51] (fun i wr => ∃ (k : Nat) (bk : List Pc), k ≤ os2.length ∧ i = .int .i64 k ∧ Aside0 (HasB wr q t V bk) ∧ Aside0 (Below w1.heap.size w1 wr)) (fun i _ => (os2.length - intOf i).toNat)
  case atStart => exact ⟨0, bs, Nat.zero_le _, rfl, HH2, HB2⟩
  case round =>
    obtain ⟨k, bk, hk, rfl, HHk, HBk⟩ := hrel
    clear c5 o5 HH2
    by_cases hlt : k < os2.length
    · obtain ⟨o, hx⟩ : ∃ o, os2[k]? = some o := ⟨_, List.getElem?_eq_getElem hlt⟩
      obtain ⟨bb, ob, hB, hcb⟩ := C_at (Kd.C_below HO2.out (bel_stepB HT1.out HBk.out)) (by decide) hx
      subst hB
      obtain ⟨hwa, hwn⟩ := HWO2.out o (List.mem_of_getElem? hx)
      have HWA := Aside0.mk hwa
      have HWN := Aside0.mk hwn
      obtain ⟨q0, a, n⟩ := o
      have b0 : wr.cell? ⟨bb, ob + k * 3, none⟩ = some (.int .i64 q0) := hcb 0 (by decide)
      have b1 : wr.cell? ⟨bb, ob + k * 3 + 1, none⟩ = some (.int .i64 a) := hcb 1 (by decide)
      have b2 : wr.cell? ⟨bb, ob + k * 3 + 2, none⟩ = some (.int .i64 n) := hcb 2 (by decide)
      clear hcb hx hwa hwn
      go_wp2_with (go_at_call 12; (with_reducible refine (does_calls _ q t V bk (HHk.out.below (below_alloc (Below.refl _ _) _)) q0 a n HWA.out HWN.out).mono ?_); rintro e w5 ⟨rfl, hh5, hf5⟩; have HH5 := Aside0.mk hh5; have HB5 := Aside0.mk ((below_alloc HBk.out _).trans (hf5.below _ (below_alloc HBk.out _).size (fun b (hb : b = t) => by rw [hb]; exact HTT2.out))); clear hh5 hf5)
      refine ⟨⟨k + 1, _, by omega, by go_num, HH5, HB5⟩, by simp [intOf]; omega⟩
    · obtain rfl : k = os2.length := by omega
      go_wp2_with (go_at_call 13; (with_reducible refine (each_calls _ p).mono ?_); rintro e w5 ⟨rfl, rfl⟩)
      have hbk5 := Aside0.mk ((HBk.out.block _ (blk_lt L5.out)).trans L5.out)
      have hbk6 := Aside0.mk ((HBk.out.block _ (blk_lt L6.out)).trans L6.out)
      obtain ⟨N, hN⟩ : ∃ N, N = wr.heap.size := ⟨_, rfl⟩
      obtain ⟨wx, hwx⟩ : ∃ wx, wx = (((wr.alloc (Obj.cells #[Value.int IntKind.i64 0] 3)).alloc (Obj.cells #[Value.int IntKind.i64 0] 3)).alloc (Obj.cells #[Value.pointer (some { block := p, off := 0 })] 23)) := ⟨_, rfl⟩
      rw [← hwx, ← hN]
      have hzx : wx.heap.size = N + 3 := by rw [hwx, hN]; simp
      have HBX := Aside0.mk (show Below wr.heap.size wr wx by rw [hwx]; exact below_alloc (below_alloc (below_alloc (Below.refl _ _) _) _) _)
      have HTX := Aside0.mk (bel_stepB (bel_stepB HT1.out HBk.out) HBX.out)
      have b0 : wx.heap[N]? = some (.cells #[.int .i64 ((0 : Nat) : Int)] 3 (0, 0)) := by rw [hwx, hN]; exact old_blk (old_blk (heap_alloc_new wr _) _) _
      have b1 : wx.heap[N + 1]? = some (.cells #[.int .i64 ((0 : Nat) : Int)] 3 (0, 0)) := by rw [hwx, hN]; exact old_blk (alloc_two wr _ _) _
      have b2 : wx.heap[N + 2]? = some (.cells #[.pointer (some ⟨p, 0, none⟩)] 23 (0, 0)) := by rw [hwx, hN]; exact alloc_three wr _ _ _
      have X5 := Aside0.mk ((HBX.out.block _ (blk_lt hbk5.out)).trans hbk5.out)
      have X6 := Aside0.mk ((HBX.out.block _ (blk_lt hbk6.out)).trans hbk6.out)
      have l5 := blk_lt hbk5.out
      have l6 := blk_lt hbk6.out
      rw [← hN] at l5 l6
      have HH3 := Aside0.mk (HH1.out.below HBk.out)
      have lp := HH3.out.p_lt
      have ls := HH3.out.s_lt
      rw [← hN] at lp ls
      have HX1 := Aside0.mk (HH3.out.below HBX.out)
      have HRr := Aside0.mk (R_step HR1.out HBk.out)
      have HTr := Aside0.mk (bel_stepB HT1.out HBk.out)
      have hseq := each_seq wx (N + 2) p s V bs HX1.out (blk_cell b2 rfl)
      have HB0 := Aside0.mk b0
      have HB1x := Aside0.mk b1
      have HZ := Aside0.mk hzx
      obtain ⟨L, hL⟩ : ∃ L, L = os2.length := ⟨_, rfl⟩
      rw [← hL] at X5 h3 hln2 hbk5
      rw [← hL]
      obtain ⟨N5, hN5⟩ : ∃ N5, N5 = w.heap.size := ⟨_, rfl⟩
      rw [← hN5] at X5 X6 l5 l6 hbk5 hbk6
      rw [← hN5]
      have HN5 := Aside0.mk hN5
      have HNN := Aside0.mk hN
      clear hwx b0 b1 b2 HF2 HF HM K5 K6 L5 L6 HWB HZ0 hk hlt HO2 HWO2 hL hN hN5
      refine wpIn_wide (n := 14).1 ?_
      refine range_break itG (xs := bs) (enc := encP) rfl (enters_of Try.func29 (by kernel_rfl) rfl) hseq (Below.refl _ _) (fun b hb => ?_) (fun _ => rfl)
        (fun W' => Below (N + 3) wx W') (EaI N L V bs wx) (fun _ W' => EaX N L V bs.length wx W') ?hI0 ?hI ?hIx ?hstart ?h0 ?a1 ?assign ?body ?hend
      · rcases hb with rfl | rfl | rfl <;> omega
      case hI0 =>
        rintro P Q hA h1 hg
        have hg2 := itG.below hA hg
        rw [hzx] at hg2
        exact h1.trans hg2
      case hI =>
        rintro k P Q hA ⟨⟨e, h1, h2⟩, h3, h4, h5⟩ hg
        have hg2 := itG.below hA hg
        rw [hzx] at hg2
        exact ⟨⟨e, h1, (hg2.block _ (by omega)).trans h2⟩, (hg2.block _ (by omega)).trans h3, h4, h5.trans (T := fun b => N + 3 ≤ b) ⟨hg2.os, hg2.tape, hg2.output, hg2.size, fun b _ hb => hg2.block b (by omega)⟩ (fun b hb hl => by rw [hzx] at hl; omega)⟩
      case hIx =>
        rintro k P Q hA ⟨e, m, h1, h6, h2, h3, h5⟩ hg
        have hg2 := itG.below hA hg
        rw [hzx] at hg2
        exact ⟨e, m, h1, h6, (hg2.block _ (by omega)).trans h2, (hg2.block _ (by omega)).trans h3, h5.trans (T := fun b => N + 3 ≤ b) ⟨hg2.os, hg2.tape, hg2.output, hg2.size, fun b _ hb => hg2.block b (by omega)⟩ (fun b hb hl => by rw [hzx] at hl; omega)⟩
      case hstart =>
        rintro W' g3
        exact ⟨⟨0, by rw [List.drop_zero]; exact HX1.out.ok, (g3.block _ (by omega)).trans HB0.out⟩, (g3.block _ (by omega)).trans HB1x.out, by omega, Fr.of_below (by rw [hzx]; exact g3) _⟩
      case h0 => exact Below.refl _ _
      case assign =>
        intro l' x W' K hK
        simp only [encP]
        gi_wp2
        exact hK
      case body =>
        rintro l' M k ⟨a, n⟩ W' hx hM hMW ⟨⟨e, g2, g4⟩, gn, glt, gfr⟩
        rw [hzx] at hM
        have hdr : bs.drop k = (a, n) :: bs.drop (k + 1) := by
          obtain ⟨hlt, he⟩ := List.getElem?_eq_some_iff.1 hx
          rw [List.drop_eq_getElem_cons hlt, he]
        rw [hdr] at g2
        obtain ⟨g5, g6, g7⟩ := g2
        simp only at g5 g6 g7
        have gU := g7.le
        have hkb : k < bs.length := (List.getElem?_eq_some_iff.1 hx).1
        have hbl := HX1.out.ok.le_len
        have HG7 := Aside0.mk g7
        have HG4 := Aside0.mk g4
        have HGN := Aside0.mk gn
        have HGF := Aside0.mk gfr
        have HMW := Aside0.mk hMW
        have HM2 := Aside0.mk hM
        have ce := blk_cell g4 (i := 0) rfl
        have cf := blk_free g4 0
        have cn := blk_cell gn (i := 0) rfl
        have cg := blk_free gn 0
        have q5 := gfr.get X5.out (by omega)
        have d5 := blk_cell q5 (i := 0) rfl
        have Q5 := Aside0.mk q5
        have hw2 : IntKind.i64.wrap ((a : Int) + n) = a + n := IntWalk.i64_in _ (by omega)
        have hw3 : IntKind.i64.wrap ((k : Int) + 1) = k + 1 := IntWalk.i64_in _ (by omega)
        have hg5 : ¬ (a : Int) < e := by omega
        have hg6 : ¬ (n : Int) < 1 := by omega
        clear hx g4 gn gfr g7 q5 hM hMW hdr hseq
        by_cases hkl : ((k : Int) + 1) = L
        · gi_wp2
          obtain ⟨r1, r2, r3⟩ := two_sets HG4.out HGN.out (.int .i64 ((a : Int) + n)) (.int .i64 (L : Int))
          refine ⟨KeepI.of_fr r3 (fun b _ hb h => ?_), rfl, a + n, L, gU, .inl rfl, by simpa using r1, r2, HGF.out.trans' r3⟩
          rcases h with h | h
          · rcases hb with rfl | rfl <;> omega
          · exact h
        · gi_wp2
          obtain ⟨r1, r2, r3⟩ := two_sets HG4.out HGN.out (.int .i64 ((a : Int) + n)) (.int .i64 ((k : Int) + 1))
          refine ⟨KeepI.of_fr r3 (fun b _ hb h => ?_), ⟨⟨a + n, HG7.out, by simpa using r1⟩, by simpa using r2, by omega, HGF.out.trans' r3⟩⟩
          rcases h with h | h
          · rcases hb with rfl | rfl <;> omega
          · rcases h with h | h | h
            · rcases hb with rfl | rfl <;> omega
            · rcases hb with rfl | rfl <;> omega
            · rcases hb with rfl | rfl <;> omega
      case hend =>
        rintro W' hMW hq hD
        have hX : EaX N L V bs.length wx W' := by
          rcases hq with ⟨⟨e, h1, h2⟩, h3, h4, h5⟩ | ⟨k, _, h⟩
          · rw [List.drop_length] at h1
            exact ⟨e, bs.length, h1, .inr rfl, h2, h3, h5⟩
          · exact h
        obtain ⟨e, m, heV, hmL, h2, h3, h5⟩ := hX
        clear hq hseq
        have hT0 : Below wr.heap.size wr W' := HBX.out.trans (h5.below _ HBX.out.size (fun b hb => by have := HNN.out; omega))
        have HT0 := Aside0.mk hT0
        have c13 := blk_cell h2 (i := 0) rfl
        have c14 := blk_cell h3 (i := 0) rfl
        have c5 := blk_cell ((hT0.block _ (blk_lt hbk5.out)).trans hbk5.out) (i := 0) rfl
        have HK6 := Aside0.mk ((hT0.block _ (blk_lt hbk6.out)).trans hbk6.out)
        have hev : (e : Int) ≤ V := by omega
        have HD := Aside0.mk hD
        have HMW := Aside0.mk hMW
        clear hT0 h2 h3 h5 hD hMW
        by_cases hmL2 : m = L
        · subst hmL2
          clear hmL
          go_wp2
          refine wpIn_wide (n := 14).1 ?_
          refine Ystart_ (m := 25) (S := fun w' => w'.cell? ⟨N, 0, none⟩ = some (.int .i64 (e : Int)) ∧ w'.cell? ⟨N + 1, 0, none⟩ = some (.int .i64 (m : Int)) ∧ w'.cell? ⟨N5, 0, none⟩ = some (.slice B2 m d2)) (ds := [24]) #[false, false, false, false, false, false, false, false, false, false, false, false, false, false, false, false, false, false, false, false, false, false, false, false, false] (by kernel_rfl) rfl rfl (fun _ => trivial) (by kernel_rfl) ⟨c13, c14, c5⟩ (fun hHeld => ?_)
          refine Yone_ (i := 0) (N := some 79) #[true, false, false, false, false, false, false, false, false, false, false, false, false, false, false, false, false, false, false, false, false, false, false, false, false] rfl rfl (by kernel_rfl) (by decide) (fun K hK => ?_)
          refine Ygoes_ Try.func11 (by kernel_rfl) rfl #[] (by rfl) rfl rfl (by simp only [List.map_toArray, List.map_nil]) (by first | exact .inl rfl | exact .inr ⟨_, rfl⟩) ?_
          with_reducible refine (bk_alive _).mono ?_
          rintro e w7 ⟨rfl, hb7⟩
          refine ⟨_, rfl, ?_⟩
          have HB7 := Aside0.mk hb7
          have HT7 := Aside0.mk (bel_stepB (show Below W'.heap.size W' W'.drew from (Below.refl _ _).drew) hb7)
          clear hb7
          refine hK.out _ _ ⟨(bel_cellB HB7.out hHeld.1), (bel_cellB HB7.out hHeld.2.1), (bel_cellB HB7.out hHeld.2.2)⟩ (fun hHeld => ?_)
          clear hK K
          refine Ynorm_ (a' := ?_) ?_ ?_
          rotate_left
          · show Act.put _ (some 79) _ = _
            simp only [Act.put, List.setIfInBounds_toArray, List.set_cons_zero, List.set_cons_succ, i64_w, i32_w]
            rfl
          refine Ypure_ (i := 1) (N := some 80) (v := ?_) (a' := ?_) #[true, true, false, false, false, false, false, false, false, false, false, false, false, false, false, false, false, false, false, false, false, false, false, false, false] rfl rfl (by kernel_rfl) (fun _ _ _ h => h) (Or.inl ⟨by rfl, ?_⟩) ?_ ?_
          rotate_left
          · intro w'
            go_simp
            with_reducible rfl
          rotate_left
          · simp only [Act.put, List.setIfInBounds_toArray, List.set_cons_zero, List.set_cons_succ, i64_w, i32_w]
            rfl
          refine Ypure_ (i := 3) (N := some 82) (v := ?_) (a' := ?_) #[true, true, false, true, false, false, false, false, false, false, false, false, false, false, false, false, false, false, false, false, false, false, false, false, false] rfl rfl (by kernel_rfl) (fun _ _ _ h => h) (Or.inl ⟨by rfl, ?_⟩) ?_ ?_
          rotate_left
          · intro w'
            go_simp
            with_reducible rfl
          rotate_left
          · simp only [Act.put, List.setIfInBounds_toArray, List.set_cons_zero, List.set_cons_succ, i64_w, i32_w]
            rfl
          refine Ytake_ (i := 2) (N := some 81) (v := ?_) (a' := ?_) #[true, true, true, true, false, false, false, false, false, false, false, false, false, false, false, false, false, false, false, false, false, false, false, false, false] rfl rfl (by kernel_rfl) (fun _ _ _ h => h) (Or.inl ⟨by rfl, ?_⟩) hHeld ?_ ?_
          rotate_left
          · rintro w' ⟨s0, s1, s2⟩
            go_simp
            with_reducible rfl
          rotate_left
          · simp only [Act.put, List.setIfInBounds_toArray, List.set_cons_zero, List.set_cons_succ, i64_w, i32_w]
            rfl
          refine Ypure_ (i := 4) (N := some 83) (v := ?_) (a' := ?_) #[true, true, true, true, true, false, false, false, false, false, false, false, false, false, false, false, false, false, false, false, false, false, false, false, false] rfl rfl (by kernel_rfl) (fun _ _ _ h => h) (Or.inl ⟨by rfl, ?_⟩) ?_ ?_
          rotate_left
          · intro w'
            go_simp
            with_reducible rfl
          rotate_left
          · simp only [Act.put, List.setIfInBounds_toArray, List.set_cons_zero, List.set_cons_succ, i64_w, i32_w]
            rfl
          refine Ypure_ (i := 5) (N := some 84) (v := ?_) (a' := ?_) #[true, true, true, true, true, true, false, false, false, false, false, false, false, false, false, false, false, false, false, false, false, false, false, false, false] rfl rfl (by kernel_rfl) (fun _ _ _ h => h) (Or.inl ⟨by rfl, ?_⟩) ?_ ?_
          rotate_left
          · intro w'
            go_simp
            with_reducible rfl
          rotate_left
          · simp only [Act.put, List.setIfInBounds_toArray, List.set_cons_zero, List.set_cons_succ, i64_w, i32_w]
            rfl
          refine Ypure_ (i := 6) (N := some 85) (v := ?_) (a' := ?_) #[true, true, true, true, true, true, true, false, false, false, false, false, false, false, false, false, false, false, false, false, false, false, false, false, false] rfl rfl (by kernel_rfl) (fun _ _ _ h => h) (Or.inl ⟨by rfl, ?_⟩) ?_ ?_
          rotate_left
          · intro w'
            go_simp
            with_reducible rfl
          rotate_left
          · simp only [Act.put, List.setIfInBounds_toArray, List.set_cons_zero, List.set_cons_succ, i64_w, i32_w]
            rfl
          refine Ypure_ (i := 7) (N := some 86) (v := ?_) (a' := ?_) #[true, true, true, true, true, true, true, true, false, false, false, false, false, false, false, false, false, false, false, false, false, false, false, false, false] rfl rfl (by kernel_rfl) (fun _ _ _ h => h) (Or.inl ⟨by rfl, ?_⟩) ?_ ?_
          rotate_left
          · intro w'
            go_simp
            with_reducible rfl
          rotate_left
          · simp only [Act.put, List.setIfInBounds_toArray, List.set_cons_zero, List.set_cons_succ, i64_w, i32_w]
            rfl
          refine Ypure_ (i := 8) (N := some 87) (v := ?_) (a' := ?_) #[true, true, true, true, true, true, true, true, true, false, false, false, false, false, false, false, false, false, false, false, false, false, false, false, false] rfl rfl (by kernel_rfl) (fun _ _ _ h => h) (Or.inl ⟨by rfl, ?_⟩) ?_ ?_
          rotate_left
          · intro w'
            go_simp
            with_reducible rfl
          rotate_left
          · simp only [Act.put, List.setIfInBounds_toArray, List.set_cons_zero, List.set_cons_succ, i64_w, i32_w]
            rfl
          refine Yone_ (i := 9) (N := some 88) #[true, true, true, true, true, true, true, true, true, true, false, false, false, false, false, false, false, false, false, false, false, false, false, false, false] rfl rfl (by kernel_rfl) (by decide) (fun K hK => ?_)
          refine Ygoes_ Try.func21 (by kernel_rfl) rfl #[.pointer (some ⟨p, 0, none⟩), .slice A V c] (by rfl) rfl rfl (by simp only [List.map_toArray, List.map_cons, List.map_nil]; rfl) (by first | exact .inl rfl | exact .inr ⟨_, rfl⟩) ?_
          with_reducible refine (stands_calls w7 p s V bs (HH3.out.below (bel_stepB HT0.out HT7.out)) A c (R_C (R_step HRr.out (bel_stepB HT0.out HT7.out))) HC1.out).mono ?_
          rintro e w8 ⟨rfl, hb8⟩
          refine ⟨_, rfl, ?_⟩
          have HB8 := Aside0.mk hb8
          have HT8 := Aside0.mk (bel_stepB HT7.out hb8)
          clear hb8
          have q6 := (HT8.out.block _ (blk_lt HK6.out)).trans HK6.out
          have d6 := blk_cell q6 (i := 0) rfl
          have f6 := blk_free q6 0
          have Q6 := Aside0.mk q6
          clear q6
          refine hK.out _ _ ⟨(bel_cellB HB8.out hHeld.1), (bel_cellB HB8.out hHeld.2.1), (bel_cellB HB8.out hHeld.2.2)⟩ (fun hHeld => ?_)
          clear hK K
          refine Ynorm_ (a' := ?_) ?_ ?_
          rotate_left
          · show Act.put _ (some 88) _ = _
            simp only [Act.put, List.setIfInBounds_toArray, List.set_cons_zero, List.set_cons_succ, i64_w, i32_w]
            rfl
          refine Ypure_ (i := 10) (N := some 89) (v := ?_) (a' := ?_) #[true, true, true, true, true, true, true, true, true, true, true, false, false, false, false, false, false, false, false, false, false, false, false, false, false] rfl rfl (by kernel_rfl) (fun _ _ _ h => h) (Or.inl ⟨by rfl, ?_⟩) ?_ ?_
          rotate_left
          · intro w'
            go_simp
            with_reducible rfl
          rotate_left
          · simp only [Act.put, List.setIfInBounds_toArray, List.set_cons_zero, List.set_cons_succ, i64_w, i32_w]
            rfl
          refine Ypure_ (i := 11) (N := some 90) (v := ?_) (a' := ?_) #[true, true, true, true, true, true, true, true, true, true, true, true, false, false, false, false, false, false, false, false, false, false, false, false, false] rfl rfl (by kernel_rfl) (fun _ _ _ h => h) (Or.inl ⟨by rfl, ?_⟩) ?_ ?_
          rotate_left
          · intro w'
            go_simp
            with_reducible rfl
          rotate_left
          · simp only [Act.put, List.setIfInBounds_toArray, List.set_cons_zero, List.set_cons_succ, i64_w, i32_w]
            rfl
          refine Ytake_ (i := 12) (N := some 91) (v := ?_) (a' := ?_) #[true, true, true, true, true, true, true, true, true, true, true, true, true, false, false, false, false, false, false, false, false, false, false, false, false] rfl rfl (by kernel_rfl) (fun _ _ _ h => h) (Or.inl ⟨by rfl, ?_⟩) hHeld ?_ ?_
          rotate_left
          · rintro w' ⟨s0, s1, s2⟩
            go_simp
            with_reducible rfl
          rotate_left
          · simp only [Act.put, List.setIfInBounds_toArray, List.set_cons_zero, List.set_cons_succ, i64_w, i32_w]
            rfl
          refine Ytake_ (i := 13) (N := some 92) (v := ?_) (a' := ?_) #[true, true, true, true, true, true, true, true, true, true, true, true, true, true, false, false, false, false, false, false, false, false, false, false, false] rfl rfl (by kernel_rfl) (fun _ _ _ h => h) (Or.inl ⟨by rfl, ?_⟩) hHeld ?_ ?_
          rotate_left
          · rintro w' ⟨s0, s1, s2⟩
            go_simp
            with_reducible rfl
          rotate_left
          · simp only [Act.put, List.setIfInBounds_toArray, List.set_cons_zero, List.set_cons_succ, i64_w, i32_w]
            rfl
          refine Ypure_ (i := 14) (N := some 93) (v := ?_) (a' := ?_) #[true, true, true, true, true, true, true, true, true, true, true, true, true, true, true, false, false, false, false, false, false, false, false, false, false] rfl rfl (by kernel_rfl) (fun _ _ _ h => h) (Or.inl ⟨by rfl, ?_⟩) ?_ ?_
          rotate_left
          · intro w'
            go_simp
            with_reducible rfl
          rotate_left
          · simp only [Act.put, List.setIfInBounds_toArray, List.set_cons_zero, List.set_cons_succ, i64_w, i32_w]
            rfl
          refine Ypure_ (i := 15) (N := some 94) (v := ?_) (a' := ?_) #[true, true, true, true, true, true, true, true, true, true, true, true, true, true, true, true, false, false, false, false, false, false, false, false, false] rfl rfl (by kernel_rfl) (fun _ _ _ h => h) (Or.inl ⟨by rfl, ?_⟩) ?_ ?_
          rotate_left
          · intro w'
            go_simp
            with_reducible rfl
          rotate_left
          · simp only [Act.put, List.setIfInBounds_toArray, List.set_cons_zero, List.set_cons_succ, i64_w, i32_w]
            rfl
          refine Ypure_ (i := 16) (N := some 95) (v := ?_) (a' := ?_) #[true, true, true, true, true, true, true, true, true, true, true, true, true, true, true, true, true, false, false, false, false, false, false, false, false] rfl rfl (by kernel_rfl) (fun _ _ _ h => h) (Or.inl ⟨by rfl, ?_⟩) ?_ ?_
          rotate_left
          · intro w'
            go_simp
            with_reducible rfl
          rotate_left
          · simp only [Act.put, List.setIfInBounds_toArray, List.set_cons_zero, List.set_cons_succ, i64_w, i32_w]
            rfl
          refine Ypure_ (i := 17) (N := some 96) (v := undef) (a' := ?_) #[true, true, true, true, true, true, true, true, true, true, true, true, true, true, true, true, true, true, false, false, false, false, false, false, false] rfl rfl (by kernel_rfl) (fun _ _ _ h => h) (Or.inr ⟨by rfl, rfl⟩) ?_ ?_
          rotate_left
          · simp only [Act.put, List.setIfInBounds_toArray, List.set_cons_zero, List.set_cons_succ, i64_w, i32_w]
            rfl
          refine Ypure_ (i := 18) (N := some 97) (v := undef) (a' := ?_) #[true, true, true, true, true, true, true, true, true, true, true, true, true, true, true, true, true, true, true, false, false, false, false, false, false] rfl rfl (by kernel_rfl) (fun _ _ _ h => h) (Or.inr ⟨by rfl, rfl⟩) ?_ ?_
          rotate_left
          · simp only [Act.put, List.setIfInBounds_toArray, List.set_cons_zero, List.set_cons_succ, i64_w, i32_w]
            rfl
          refine Ypure_ (i := 19) (N := some 98) (v := undef) (a' := ?_) #[true, true, true, true, true, true, true, true, true, true, true, true, true, true, true, true, true, true, true, true, false, false, false, false, false] rfl rfl (by kernel_rfl) (fun _ _ _ h => h) (Or.inr ⟨by rfl, rfl⟩) ?_ ?_
          rotate_left
          · simp only [Act.put, List.setIfInBounds_toArray, List.set_cons_zero, List.set_cons_succ, i64_w, i32_w]
            rfl
          refine Ypure_ (i := 20) (N := some 99) (v := undef) (a' := ?_) #[true, true, true, true, true, true, true, true, true, true, true, true, true, true, true, true, true, true, true, true, true, false, false, false, false] rfl rfl (by kernel_rfl) (fun _ _ _ h => h) (Or.inr ⟨by rfl, rfl⟩) ?_ ?_
          rotate_left
          · simp only [Act.put, List.setIfInBounds_toArray, List.set_cons_zero, List.set_cons_succ, i64_w, i32_w]
            rfl
          refine Ypure_ (i := 21) (N := some 100) (v := undef) (a' := ?_) #[true, true, true, true, true, true, true, true, true, true, true, true, true, true, true, true, true, true, true, true, true, true, false, false, false] rfl rfl (by kernel_rfl) (fun _ _ _ h => h) (Or.inr ⟨by rfl, rfl⟩) ?_ ?_
          rotate_left
          · simp only [Act.put, List.setIfInBounds_toArray, List.set_cons_zero, List.set_cons_succ, i64_w, i32_w]
            rfl
          refine Ypure_ (i := 22) (N := some 101) (v := ?_) (a' := ?_) #[true, true, true, true, true, true, true, true, true, true, true, true, true, true, true, true, true, true, true, true, true, true, true, false, false] rfl rfl (by kernel_rfl) (fun _ _ _ h => h) (Or.inl ⟨by rfl, ?_⟩) ?_ ?_
          rotate_left
          · intro w'
            go_simp
            with_reducible rfl
          rotate_left
          · simp only [Act.put, List.setIfInBounds_toArray, List.set_cons_zero, List.set_cons_succ, i64_w, i32_w]
            rfl
          refine Ypure_ (i := 23) (N := some 102) (v := ?_) (a' := ?_) #[true, true, true, true, true, true, true, true, true, true, true, true, true, true, true, true, true, true, true, true, true, true, true, true, false] rfl rfl (by kernel_rfl) (fun _ _ _ h => h) (Or.inl ⟨by rfl, ?_⟩) ?_ ?_
          rotate_left
          · intro w'
            go_simp
            with_reducible rfl
          rotate_left
          · simp only [Act.put, List.setIfInBounds_toArray, List.set_cons_zero, List.set_cons_succ, i64_w, i32_w]
            rfl
          refine Ylast_ (i := 24) (N := none) #[true, true, true, true, true, true, true, true, true, true, true, true, true, true, true, true, true, true, true, true, true, true, true, true, true] rfl rfl (by kernel_rfl) (by decide) (fun K hK => ?_)
          refine Yskip_ (w1 := ?_) (by rfl) rfl ?_ ?_
          rotate_left
          · go_simp
            rfl
          refine hK.out _ _ ?_
          clear hK K
          refine Ydone_ (by kernel_rfl) ?_
          clear hHeld d6 f6
          obtain ⟨X, hX⟩ : ∃ X, X = w8.setCell ⟨N5 + 1, 0, none⟩ (.bool true) := ⟨_, rfl⟩
          rw [← hX]
          have HXB := Aside0.mk (show X.heap[N5 + 1]? = some (.cells #[.bool true] 4 (0, 0)) by rw [hX]; have := blk_set Q6.out 0 (.bool true); simpa using this)
          have HXD := Aside0.mk (show X.heap[wx.heap.size]? = some (.deferred (some [])) by
            rw [hX]
            exact blk_far ((HT8.out.block _ (blk_lt HD.out)).trans HD.out) _ (by simp only; omega))
          have HXW := Aside0.mk (show Below N5 w X from by
            have h1 := bel_stepB (bel_stepB HTr.out HT0.out) HT8.out
            rw [← HN5.out] at h1
            rw [hX]
            exact h1.setCell (p := ⟨N5 + 1, 0, none⟩) (by simp) _)
          clear hX
          go_wp2
          have HXE := HXD.out
          rw [HZ.out] at HXE
          refine ⟨by simp, .inl ⟨_, _, rfl, run_takeDeferred HXE, ?_⟩⟩
          refine ⟨_, results_c1 rfl _ _ (N5 + 1) _ rfl ((World.putObj_heap_other (by omega)).trans HXB.out) Try.underlying4 rfl, rfl, ?_⟩
          rw [← HN5.out]
          exact HXW.out.trans (itB.put (by omega) HXE rfl)
        · obtain rfl : m = bs.length := by omega
          obtain ⟨mi, hmi⟩ : ∃ mi : Int, mi = (bs.length : Int) := ⟨_, rfl⟩
          rw [← hmi] at c14
          have hm1 : (mi == (L : Int)) = false := by rw [hmi]; simp; omega
          have hm2 : (mi == (bs.length : Int)) = true := by rw [hmi]; simp
          clear hmi hmL hmL2
          go_wp2
          refine wpIn_wide (n := 14).1 ?_
          refine Ystart_ (m := 25) (S := fun w' => w'.cell? ⟨N, 0, none⟩ = some (.int .i64 (e : Int)) ∧ w'.cell? ⟨N + 1, 0, none⟩ = some (.int .i64 mi) ∧ w'.cell? ⟨N5, 0, none⟩ = some (.slice B2 L d2)) (ds := [24]) #[false, false, false, false, false, false, false, false, false, false, false, false, false, false, false, false, false, false, false, false, false, false, false, false, false] (by kernel_rfl) rfl rfl (fun _ => trivial) (by kernel_rfl) ⟨c13, c14, c5⟩ (fun hHeld => ?_)
          refine Yone_ (i := 0) (N := some 79) #[true, false, false, false, false, false, false, false, false, false, false, false, false, false, false, false, false, false, false, false, false, false, false, false, false] rfl rfl (by kernel_rfl) (by decide) (fun K hK => ?_)
          refine Ygoes_ Try.func11 (by kernel_rfl) rfl #[] (by rfl) rfl rfl (by simp only [List.map_toArray, List.map_nil]) (by first | exact .inl rfl | exact .inr ⟨_, rfl⟩) ?_
          with_reducible refine (bk_alive _).mono ?_
          rintro e w7 ⟨rfl, hb7⟩
          refine ⟨_, rfl, ?_⟩
          have HB7 := Aside0.mk hb7
          have HT7 := Aside0.mk (bel_stepB (show Below W'.heap.size W' W'.drew from (Below.refl _ _).drew) hb7)
          clear hb7
          refine hK.out _ _ ⟨(bel_cellB HB7.out hHeld.1), (bel_cellB HB7.out hHeld.2.1), (bel_cellB HB7.out hHeld.2.2)⟩ (fun hHeld => ?_)
          clear hK K
          refine Ynorm_ (a' := ?_) ?_ ?_
          rotate_left
          · show Act.put _ (some 79) _ = _
            simp only [Act.put, List.setIfInBounds_toArray, List.set_cons_zero, List.set_cons_succ, i64_w, i32_w]
            rfl
          refine Ypure_ (i := 1) (N := some 80) (v := ?_) (a' := ?_) #[true, true, false, false, false, false, false, false, false, false, false, false, false, false, false, false, false, false, false, false, false, false, false, false, false] rfl rfl (by kernel_rfl) (fun _ _ _ h => h) (Or.inl ⟨by rfl, ?_⟩) ?_ ?_
          rotate_left
          · intro w'
            go_simp
            with_reducible rfl
          rotate_left
          · simp only [Act.put, List.setIfInBounds_toArray, List.set_cons_zero, List.set_cons_succ, i64_w, i32_w]
            rfl
          refine Ypure_ (i := 3) (N := some 82) (v := ?_) (a' := ?_) #[true, true, false, true, false, false, false, false, false, false, false, false, false, false, false, false, false, false, false, false, false, false, false, false, false] rfl rfl (by kernel_rfl) (fun _ _ _ h => h) (Or.inl ⟨by rfl, ?_⟩) ?_ ?_
          rotate_left
          · intro w'
            go_simp
            with_reducible rfl
          rotate_left
          · simp only [Act.put, List.setIfInBounds_toArray, List.set_cons_zero, List.set_cons_succ, i64_w, i32_w]
            rfl
          refine Ytake_ (i := 2) (N := some 81) (v := ?_) (a' := ?_) #[true, true, true, true, false, false, false, false, false, false, false, false, false, false, false, false, false, false, false, false, false, false, false, false, false] rfl rfl (by kernel_rfl) (fun _ _ _ h => h) (Or.inl ⟨by rfl, ?_⟩) hHeld ?_ ?_
          rotate_left
          · rintro w' ⟨s0, s1, s2⟩
            go_simp
            with_reducible rfl
          rotate_left
          · simp only [Act.put, List.setIfInBounds_toArray, List.set_cons_zero, List.set_cons_succ, i64_w, i32_w]
            rfl
          refine Ypure_ (i := 4) (N := some 83) (v := ?_) (a' := ?_) #[true, true, true, true, true, false, false, false, false, false, false, false, false, false, false, false, false, false, false, false, false, false, false, false, false] rfl rfl (by kernel_rfl) (fun _ _ _ h => h) (Or.inl ⟨by rfl, ?_⟩) ?_ ?_
          rotate_left
          · intro w'
            go_simp
            with_reducible rfl
          rotate_left
          · simp only [Act.put, List.setIfInBounds_toArray, List.set_cons_zero, List.set_cons_succ, i64_w, i32_w]
            rfl
          refine Ypure_ (i := 5) (N := some 84) (v := ?_) (a' := ?_) #[true, true, true, true, true, true, false, false, false, false, false, false, false, false, false, false, false, false, false, false, false, false, false, false, false] rfl rfl (by kernel_rfl) (fun _ _ _ h => h) (Or.inl ⟨by rfl, ?_⟩) ?_ ?_
          rotate_left
          · intro w'
            go_simp
            with_reducible rfl
          rotate_left
          · simp only [Act.put, List.setIfInBounds_toArray, List.set_cons_zero, List.set_cons_succ, i64_w, i32_w]
            rfl
          refine Ypure_ (i := 6) (N := some 85) (v := ?_) (a' := ?_) #[true, true, true, true, true, true, true, false, false, false, false, false, false, false, false, false, false, false, false, false, false, false, false, false, false] rfl rfl (by kernel_rfl) (fun _ _ _ h => h) (Or.inl ⟨by rfl, ?_⟩) ?_ ?_
          rotate_left
          · intro w'
            go_simp
            with_reducible rfl
          rotate_left
          · simp only [Act.put, List.setIfInBounds_toArray, List.set_cons_zero, List.set_cons_succ, i64_w, i32_w]
            rfl
          refine Ypure_ (i := 7) (N := some 86) (v := ?_) (a' := ?_) #[true, true, true, true, true, true, true, true, false, false, false, false, false, false, false, false, false, false, false, false, false, false, false, false, false] rfl rfl (by kernel_rfl) (fun _ _ _ h => h) (Or.inl ⟨by rfl, ?_⟩) ?_ ?_
          rotate_left
          · intro w'
            go_simp
            with_reducible rfl
          rotate_left
          · simp only [Act.put, List.setIfInBounds_toArray, List.set_cons_zero, List.set_cons_succ, i64_w, i32_w]
            rfl
          refine Ypure_ (i := 8) (N := some 87) (v := ?_) (a' := ?_) #[true, true, true, true, true, true, true, true, true, false, false, false, false, false, false, false, false, false, false, false, false, false, false, false, false] rfl rfl (by kernel_rfl) (fun _ _ _ h => h) (Or.inl ⟨by rfl, ?_⟩) ?_ ?_
          rotate_left
          · intro w'
            go_simp
            with_reducible rfl
          rotate_left
          · simp only [Act.put, List.setIfInBounds_toArray, List.set_cons_zero, List.set_cons_succ, i64_w, i32_w]
            rfl
          refine Yone_ (i := 9) (N := some 88) #[true, true, true, true, true, true, true, true, true, true, false, false, false, false, false, false, false, false, false, false, false, false, false, false, false] rfl rfl (by kernel_rfl) (by decide) (fun K hK => ?_)
          refine Ygoes_ Try.func21 (by kernel_rfl) rfl #[.pointer (some ⟨p, 0, none⟩), .slice A V c] (by rfl) rfl rfl (by simp only [List.map_toArray, List.map_cons, List.map_nil]; rfl) (by first | exact .inl rfl | exact .inr ⟨_, rfl⟩) ?_
          with_reducible refine (stands_calls w7 p s V bs (HH3.out.below (bel_stepB HT0.out HT7.out)) A c (R_C (R_step HRr.out (bel_stepB HT0.out HT7.out))) HC1.out).mono ?_
          rintro e w8 ⟨rfl, hb8⟩
          refine ⟨_, rfl, ?_⟩
          have HB8 := Aside0.mk hb8
          have HT8 := Aside0.mk (bel_stepB HT7.out hb8)
          clear hb8
          refine hK.out _ _ ⟨(bel_cellB HB8.out hHeld.1), (bel_cellB HB8.out hHeld.2.1), (bel_cellB HB8.out hHeld.2.2)⟩ (fun hHeld => ?_)
          clear hK K
          refine Ynorm_ (a' := ?_) ?_ ?_
          rotate_left
          · show Act.put _ (some 88) _ = _
            simp only [Act.put, List.setIfInBounds_toArray, List.set_cons_zero, List.set_cons_succ, i64_w, i32_w]
            rfl
          refine Ypure_ (i := 10) (N := some 89) (v := ?_) (a' := ?_) #[true, true, true, true, true, true, true, true, true, true, true, false, false, false, false, false, false, false, false, false, false, false, false, false, false] rfl rfl (by kernel_rfl) (fun _ _ _ h => h) (Or.inl ⟨by rfl, ?_⟩) ?_ ?_
          rotate_left
          · intro w'
            go_simp
            with_reducible rfl
          rotate_left
          · simp only [Act.put, List.setIfInBounds_toArray, List.set_cons_zero, List.set_cons_succ, i64_w, i32_w]
            rfl
          refine Ypure_ (i := 11) (N := some 90) (v := ?_) (a' := ?_) #[true, true, true, true, true, true, true, true, true, true, true, true, false, false, false, false, false, false, false, false, false, false, false, false, false] rfl rfl (by kernel_rfl) (fun _ _ _ h => h) (Or.inl ⟨by rfl, ?_⟩) ?_ ?_
          rotate_left
          · intro w'
            go_simp
            with_reducible rfl
          rotate_left
          · simp only [Act.put, List.setIfInBounds_toArray, List.set_cons_zero, List.set_cons_succ, i64_w, i32_w]
            rfl
          refine Ytake_ (i := 12) (N := some 91) (v := ?_) (a' := ?_) #[true, true, true, true, true, true, true, true, true, true, true, true, true, false, false, false, false, false, false, false, false, false, false, false, false] rfl rfl (by kernel_rfl) (fun _ _ _ h => h) (Or.inl ⟨by rfl, ?_⟩) hHeld ?_ ?_
          rotate_left
          · rintro w' ⟨s0, s1, s2⟩
            go_simp
            with_reducible rfl
          rotate_left
          · simp only [Act.put, List.setIfInBounds_toArray, List.set_cons_zero, List.set_cons_succ, i64_w, i32_w]
            rfl
          refine Ytake_ (i := 13) (N := some 92) (v := ?_) (a' := ?_) #[true, true, true, true, true, true, true, true, true, true, true, true, true, true, false, false, false, false, false, false, false, false, false, false, false] rfl rfl (by kernel_rfl) (fun _ _ _ h => h) (Or.inl ⟨by rfl, ?_⟩) hHeld ?_ ?_
          rotate_left
          · rintro w' ⟨s0, s1, s2⟩
            go_simp
            with_reducible rfl
          rotate_left
          · simp only [Act.put, List.setIfInBounds_toArray, List.set_cons_zero, List.set_cons_succ, i64_w, i32_w]
            rfl
          refine Ypure_ (i := 14) (N := some 93) (v := ?_) (a' := ?_) #[true, true, true, true, true, true, true, true, true, true, true, true, true, true, true, false, false, false, false, false, false, false, false, false, false] rfl rfl (by kernel_rfl) (fun _ _ _ h => h) (Or.inl ⟨by rfl, ?_⟩) ?_ ?_
          rotate_left
          · intro w'
            go_simp
            with_reducible rfl
          rotate_left
          · simp only [Act.put, List.setIfInBounds_toArray, List.set_cons_zero, List.set_cons_succ, i64_w, i32_w]
            rfl
          refine Ypure_ (i := 15) (N := some 94) (v := ?_) (a' := ?_) #[true, true, true, true, true, true, true, true, true, true, true, true, true, true, true, true, false, false, false, false, false, false, false, false, false] rfl rfl (by kernel_rfl) (fun _ _ _ h => h) (Or.inl ⟨by rfl, ?_⟩) ?_ ?_
          rotate_left
          · intro w'
            go_simp
            with_reducible rfl
          rotate_left
          · simp only [Act.put, List.setIfInBounds_toArray, List.set_cons_zero, List.set_cons_succ, i64_w, i32_w]
            rfl
          refine Ypure_ (i := 16) (N := some 95) (v := ?_) (a' := ?_) #[true, true, true, true, true, true, true, true, true, true, true, true, true, true, true, true, true, false, false, false, false, false, false, false, false] rfl rfl (by kernel_rfl) (fun _ _ _ h => h) (Or.inl ⟨by rfl, ?_⟩) ?_ ?_
          rotate_left
          · intro w'
            go_simp
            with_reducible rfl
          rotate_left
          · simp only [Act.put, List.setIfInBounds_toArray, List.set_cons_zero, List.set_cons_succ, i64_w, i32_w]
            rfl
          refine Ypure_ (i := 18) (N := some 97) (v := ?_) (a' := ?_) #[true, true, true, true, true, true, true, true, true, true, true, true, true, true, true, true, true, false, true, false, false, false, false, false, false] rfl rfl (by kernel_rfl) (fun _ _ _ h => h) (Or.inl ⟨by rfl, ?_⟩) ?_ ?_
          rotate_left
          · intro w'
            go_simp
            with_reducible rfl
          rotate_left
          · simp only [Act.put, List.setIfInBounds_toArray, List.set_cons_zero, List.set_cons_succ, i64_w, i32_w]
            rfl
          refine Ytake_ (i := 17) (N := some 96) (v := ?_) (a' := ?_) #[true, true, true, true, true, true, true, true, true, true, true, true, true, true, true, true, true, true, true, false, false, false, false, false, false] rfl rfl (by kernel_rfl) (fun _ _ _ h => h) (Or.inl ⟨by rfl, ?_⟩) hHeld ?_ ?_
          rotate_left
          · rintro w' ⟨s0, s1, s2⟩
            go_simp
            with_reducible rfl
          rotate_left
          · simp only [Act.put, List.setIfInBounds_toArray, List.set_cons_zero, List.set_cons_succ, i64_w, i32_w]
            rfl
          refine Yone_ (i := 19) (N := some 98) #[true, true, true, true, true, true, true, true, true, true, true, true, true, true, true, true, true, true, true, true, false, false, false, false, false] rfl rfl (by kernel_rfl) (by decide) (fun K hK => ?_)
          refine Ygoes_ Try.func24 (by kernel_rfl) rfl #[.slice A V c] (by rfl) rfl rfl (by simp only [List.map_toArray, List.map_cons, List.map_nil]; rfl) (by first | exact .inl rfl | exact .inr ⟨_, rfl⟩) ?_
          with_reducible refine (rstarts_calls (R_C (R_step HRr.out (bel_stepB HT0.out HT8.out))) HC1.out (by omega) HH3.out.ok).mono ?_
          rintro e w9 ⟨A6, c6, rfl, hC6, hc6, hb9⟩
          refine ⟨_, rfl, ?_⟩
          have HB9 := Aside0.mk hb9
          have HT9 := Aside0.mk (bel_stepB HT8.out hb9)
          clear hC6 hb9
          have q6 := (HT9.out.block _ (blk_lt HK6.out)).trans HK6.out
          have d6 := blk_cell q6 (i := 0) rfl
          have f6 := blk_free q6 0
          have Q6 := Aside0.mk q6
          clear q6
          refine hK.out _ _ ⟨(bel_cellB HB9.out hHeld.1), (bel_cellB HB9.out hHeld.2.1), (bel_cellB HB9.out hHeld.2.2)⟩ (fun hHeld => ?_)
          clear hK K
          refine Ynorm_ (a' := ?_) ?_ ?_
          rotate_left
          · show Act.put _ (some 98) _ = _
            simp only [Act.put, List.setIfInBounds_toArray, List.set_cons_zero, List.set_cons_succ, i64_w, i32_w]
            rfl
          refine Ypure_ (i := 20) (N := some 99) (v := ?_) (a' := ?_) #[true, true, true, true, true, true, true, true, true, true, true, true, true, true, true, true, true, true, true, true, true, false, false, false, false] rfl rfl (by kernel_rfl) (fun _ _ _ h => h) (Or.inl ⟨by rfl, ?_⟩) ?_ ?_
          rotate_left
          · intro w'
            go_simp
            with_reducible rfl
          rotate_left
          · simp only [Act.put, List.setIfInBounds_toArray, List.set_cons_zero, List.set_cons_succ, i64_w, i32_w]
            rfl
          refine Ypure_ (i := 21) (N := some 100) (v := ?_) (a' := ?_) #[true, true, true, true, true, true, true, true, true, true, true, true, true, true, true, true, true, true, true, true, true, true, false, false, false] rfl rfl (by kernel_rfl) (fun _ _ _ h => h) (Or.inl ⟨by rfl, ?_⟩) ?_ ?_
          rotate_left
          · intro w'
            go_simp
            with_reducible rfl
          rotate_left
          · simp only [Act.put, List.setIfInBounds_toArray, List.set_cons_zero, List.set_cons_succ, i64_w, i32_w]
            rfl
          refine Ypure_ (i := 22) (N := some 101) (v := ?_) (a' := ?_) #[true, true, true, true, true, true, true, true, true, true, true, true, true, true, true, true, true, true, true, true, true, true, true, false, false] rfl rfl (by kernel_rfl) (fun _ _ _ h => h) (Or.inl ⟨by rfl, ?_⟩) ?_ ?_
          rotate_left
          · intro w'
            go_simp
            with_reducible rfl
          rotate_left
          · simp only [Act.put, List.setIfInBounds_toArray, List.set_cons_zero, List.set_cons_succ, i64_w, i32_w]
            rfl
          refine Ypure_ (i := 23) (N := some 102) (v := ?_) (a' := ?_) #[true, true, true, true, true, true, true, true, true, true, true, true, true, true, true, true, true, true, true, true, true, true, true, true, false] rfl rfl (by kernel_rfl) (fun _ _ _ h => h) (Or.inl ⟨by rfl, ?_⟩) ?_ ?_
          rotate_left
          · intro w'
            go_simp
            with_reducible rfl
          rotate_left
          · simp only [Act.put, List.setIfInBounds_toArray, List.set_cons_zero, List.set_cons_succ, i64_w, i32_w]
            rfl
          refine Ylast_ (i := 24) (N := none) #[true, true, true, true, true, true, true, true, true, true, true, true, true, true, true, true, true, true, true, true, true, true, true, true, true] rfl rfl (by kernel_rfl) (by decide) (fun K hK => ?_)
          refine Yskip_ (w1 := ?_) (by rfl) rfl ?_ ?_
          rotate_left
          · go_simp
            rfl
          refine hK.out _ _ ?_
          clear hK K
          refine Ydone_ (by kernel_rfl) ?_
          clear hHeld d6 f6
          obtain ⟨X, hX⟩ : ∃ X, X = w9.setCell ⟨N5 + 1, 0, none⟩ (.bool true) := ⟨_, rfl⟩
          rw [← hX]
          have HXB := Aside0.mk (show X.heap[N5 + 1]? = some (.cells #[.bool true] 4 (0, 0)) by rw [hX]; have := blk_set Q6.out 0 (.bool true); simpa using this)
          have HXD := Aside0.mk (show X.heap[wx.heap.size]? = some (.deferred (some [])) by
            rw [hX]
            exact blk_far ((HT9.out.block _ (blk_lt HD.out)).trans HD.out) _ (by simp only; omega))
          have HXW := Aside0.mk (show Below N5 w X from by
            have h1 := bel_stepB (bel_stepB HTr.out HT0.out) HT9.out
            rw [← HN5.out] at h1
            rw [hX]
            exact h1.setCell (p := ⟨N5 + 1, 0, none⟩) (by simp) _)
          clear hX
          go_wp2
          have HXE := HXD.out
          rw [HZ.out] at HXE
          refine ⟨by simp, .inl ⟨_, _, rfl, run_takeDeferred HXE, ?_⟩⟩
          refine ⟨_, results_c1 rfl _ _ (N5 + 1) _ rfl ((World.putObj_heap_other (by omega)).trans HXB.out) Try.underlying4 rfl, rfl, ?_⟩
          rw [← HN5.out]
          exact HXW.out.trans (itB.put (by omega) HXE rfl)
end Go.Proofs.Ytgendnoafemgpaa.Hand
