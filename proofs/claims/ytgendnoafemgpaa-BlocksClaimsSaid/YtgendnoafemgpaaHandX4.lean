/- What a claim needs of the walks and contracts, part 4. -/
import Derived.Deep.Slices
import Derived.ChangeSame
import Derived.Lib.SmallJoins
import Derived.Deep.Strs
import Derived.Test.YtgendnoafemgpaaHandX3
namespace Go.Proofs.Ytgendnoafemgpaa.Hand
attribute [local go_sem] Oper.semAt_some
open Go.RowKit Go.Maps Go.Sort Go.Shelf Go.Proofs.YtgendnoafemgpaaW.PrintWords Go.Proofs.YtgendnoafemgpaaW.PrintLast Go.Proofs.Ytgendnoafemgpaa.PHandRB
set_option linter.unusedVariables false
set_option linter.unusedSimpArgs false
theorem drawn_below {w w' : World} (h : Drawn0 w w') : Below w.heap.size w w' := by
  obtain ⟨n, rfl⟩ := h
  exact ⟨rfl, rfl, rfl, Nat.le_refl _, fun _ _ => rfl⟩
section
variable {w : World} {A : Option Addr} {c U : Nat} {bs : List Pc}
theorem occ_C (h : Kd.C (Kd.int .i64) w A U (occ U bs)) : Kd.C (Kd.int .i64) w A (occ U bs).length (occ U bs) := by rw [occ_len]; exact h
theorem rlong_calls (hr : Kd.C (Kd.int .i64) w A U (occ U bs)) (hc : U ≤ c) (hU : U ≤ 1024) (h : Chain 0 bs U) (x : Int) (hx : I64 x) : Calls Try.prog 35 #[.slice A U c, .int .i64 x] w fun e w' => e = .returned (.int .i64 (longI bs x)) ∧ Below w.heap.size w w' := by
  have := ecdysisref10_Long.calls 2000 A c (occ U bs) x (longI bs x) w (occ_C hr) (by rw [occ_len]; exact hc) (long_f hU h x 2000 (Nat.le_refl _) hx)
  rw [occ_len] at this
  exact this.mono fun e w' he => ⟨he.1, drawn_below he.2⟩
theorem rused_calls (hr : Kd.C (Kd.int .i64) w A U (occ U bs)) (hc : U ≤ c) (hU : U ≤ 1024) (h : Chain 0 bs U) : Calls Try.prog 38 #[.slice A U c] w fun e w' => e = .returned (.int .i64 ((gsum bs : Nat) : Int)) ∧ Below w.heap.size w w' := by
  have := ecdysisref10_Used.calls 2000 A c (occ U bs) _ w (occ_C hr) (by rw [occ_len]; exact hc) (used_f hU h 2000 (Nat.le_refl _))
  rw [occ_len] at this
  exact this.mono fun e w' he => ⟨he.1, drawn_below he.2⟩
theorem rlarge_calls (hr : Kd.C (Kd.int .i64) w A U (occ U bs)) (hc : U ≤ c) (hU : U ≤ 1024) (h : Chain 0 bs U) : Calls Try.prog 39 #[.slice A U c] w fun e w' => e = .returned (.int .i64 ((mostN (gaps 0 bs U) : Nat) : Int)) ∧ Below w.heap.size w w' := by
  have := ecdysisref10_Largest.calls 2000 A c (occ U bs) _ w (occ_C hr) (by rw [occ_len]; exact hc) (large_f hU h 2000 (Nat.le_refl _))
  rw [occ_len] at this
  exact this.mono fun e w' he => ⟨he.1, drawn_below he.2⟩
theorem rstarts_calls (hr : Kd.C (Kd.int .i64) w A U (occ U bs)) (hc : U ≤ c) (hU : U ≤ 1024) (h : Chain 0 bs U) : Calls Try.prog 24 #[.slice A U c] w fun e w' => ∃ A2 c2, e = .returned (.slice A2 bs.length c2) ∧ Kd.C (Kd.int .i64) w' A2 bs.length (startsI bs) ∧ bs.length ≤ c2 ∧ Below w.heap.size w w' := by
  have := ecdysisref10_Starts.calls 2000 A c (occ U bs) (startsI bs) w (occ_C hr) (by rw [occ_len]; exact hc) (starts_f hU h 2000 (Nat.le_refl _))
  rw [occ_len] at this
  refine this.mono ?_
  rintro e w' ⟨v, rfl, hr2, hb⟩
  obtain ⟨A2, c2, rfl, hc2, hC⟩ := Kd.R_reads hr2
  rw [startsI_len] at hc2 hC ⊢
  exact ⟨A2, c2, rfl, hC, hc2, hb⟩
theorem rsame_calls {A2 : Option Addr} {c2 : Nat} (h1 : Kd.C (Kd.int .i64) w A bs.length (startsI bs)) (hc1 : bs.length ≤ c) (h2 : Kd.C (Kd.int .i64) w A2 bs.length (startsI bs)) (hc2 : bs.length ≤ c2) (hl : bs.length ≤ 1024) : Calls Try.prog 36 #[.slice A bs.length c, .slice A2 bs.length c2] w fun e w' => e = .returned (.bool true) ∧ Below w.heap.size w w' := by
  have hs := startsI_len bs
  have := ecdysisref03_Same.calls 2001 A c (startsI bs) A2 c2 (startsI bs) true w (by rw [hs]; exact h1) (by rw [hs]; exact hc1) (by rw [hs]; exact h2) (by rw [hs]; exact hc2) (same_f _ (by rw [hs]; omega) 2001 (Nat.le_refl _))
  rw [hs] at this
  exact this.mono fun e w' he => ⟨he.1, drawn_below he.2⟩
end
theorem ownsRow_same {w w1 : World} {base : Nat} {e : TypeId} {size : Nat} {v : Value} {n : Nat} {xs : List Value} (h : w.ownsRow base e size v n xs) (hb : ∀ b, v.ownBlock = some b → w1.heap[b]? = w.heap[b]?) : w1.ownsRow base e size v n xs := by
  obtain ⟨h1, h2⟩ := h
  refine ⟨h1, ?_⟩
  rcases h2 with h2 | ⟨g, cap, cur, rfl, hg, hc, rest⟩
  · exact .inl h2
  · exact .inr ⟨g, cap, cur, rfl, hg, (hb g rfl).trans hc, rest⟩
theorem ownsRow_blk {w : World} {base : Nat} {e : TypeId} {size : Nat} {v : Value} {n : Nat} {xs : List Value} (h : w.ownsRow base e size v n xs) {b : Nat} (hb : v.ownBlock = some b) : base ≤ b ∧ ∃ cs t fr, w.heap[b]? = some (.cells cs t fr) := by
  rcases h.2 with ⟨rfl, _⟩ | ⟨g, cap, cur, rfl, hg, hc, rest⟩
  · simp [Value.ownBlock] at hb
  · simp only [Value.ownBlock, Option.some.injEq] at hb
    subst hb
    exact ⟨hg, _, _, _, hc⟩
theorem ownsRow_itg {w w1 : World} {base N : Nat} {e : TypeId} {size : Nat} {v : Value} {n : Nat} {xs : List Value} (h : w.ownsRow base e size v n xs) (hg : ItG N w w1) : w1.ownsRow base e size v n xs := by
  refine ownsRow_same h (fun b hb => ?_)
  obtain ⟨_, cs, t, fr, hc⟩ := ownsRow_blk h hb
  obtain ⟨row, hgr, hr⟩ := hg
  refine hgr.block b (Array.getElem?_eq_some_iff.1 hc).1 (fun e => ?_)
  obtain ⟨_, o, ho2, hcells⟩ := hr b e.symm
  rw [hc] at ho2
  cases ho2
  cases hcells
theorem info_i64 : (Try.prog.info? 3).map (fun i => (i.zero, i.size, i.bytes)) = some (some (.int .i64 0), 1, 8) := by kernel_rfl
/-- What the loop over the blocks holds. -/
structure StI (N : Nat) (w1 : World) (bs : List Pc) (M k : Nat) (W : World) : Prop where
  ex : ∃ v, W.heap[N + 3]? = some (.cells #[v] 36 (0, 0)) ∧ W.ownsRow M 3 1 v k ((startsI (bs.take k)).map (fun x => .int .i64 x))
  fr : Fr (fun b => b = N + 3) w1 W
set_option maxRecDepth 100000 in
set_option maxHeartbeats 8000000 in
theorem stands_calls (w : World) (p s U : Nat) (bs : List Pc) (h : HasB w p s U bs) (A : Option Addr) (c : Nat) (hr : Kd.C (Kd.int .i64) w A U (occ U bs)) (hc : U ≤ c) :
    Calls Try.prog 21 #[.pointer (some ⟨p, 0, none⟩), .slice A U c] w fun e w' => e = .returned (.bool true) ∧ Below w.heap.size w w' := by
  have HH := Aside0.mk h
  have HR := Aside0.mk hr
  have hmU := h.max
  have hbl := h.ok.le_len
  have cE := fun (w : World) => callsIn_wide (n := 14).2 (each_calls w p)
  have hfE : Fence.wide.fn 13 := trivial
  clear h hr
  refine (callsIn_wide (n := 15)).1 ?_
  refine callsIn_of_wp_marks Try.func21 rfl trivial ?_ rfl
  simp only [Try.ntmps21, List.size_toArray, List.length_cons, List.length_nil, Nat.reduceAdd, Nat.reduceSub, Array.replicate_succ, Array.replicate_zero, List.push_toArray, List.append_toArray, List.nil_append, List.cons_append]
  gi_wp2_with (gi_at_call 13; refine (cE _).mono ?_; rintro e w' ⟨rfl, rfl⟩)
  clear cE hfE
  obtain ⟨w1, hw1⟩ : ∃ w1, w1 = (((((w.alloc (.cells #[.pointer (some ⟨p, 0, none⟩)] 23)).alloc (.cells #[.slice A U c] 36)).alloc (.cells #[.bool false] 4)).alloc (.cells #[.slice none 0 0] 36)).alloc (.cells #[.pointer (some ⟨p, 0, none⟩)] 23)) := ⟨_, rfl⟩
  rw [← hw1]
  obtain ⟨N, hN⟩ : ∃ N, N = w.heap.size := ⟨_, rfl⟩
  have HN := Aside0.mk hN
  have hz1 : w1.heap.size = N + 5 := by rw [hw1, hN]; simp
  have HBW := Aside0.mk (show Below w.heap.size w w1 by rw [hw1]; exact below_alloc (below_alloc (below_alloc (below_alloc (below_alloc (Below.refl _ _) _) _) _) _) _)
  have b0 : w1.heap[N]? = some (.cells #[.pointer (some ⟨p, 0, none⟩)] 23 (0, 0)) := by rw [hw1, hN]; exact old_blk (old_blk (old_blk (old_blk (heap_alloc_new w _) _) _) _) _
  have b1 : w1.heap[N + 1]? = some (.cells #[.slice A U c] 36 (0, 0)) := by rw [hw1, hN]; exact old_blk (old_blk (old_blk (alloc_two w _ _) _) _) _
  have b2 : w1.heap[N + 2]? = some (.cells #[.bool false] 4 (0, 0)) := by rw [hw1, hN]; exact old_blk (old_blk (alloc_three w _ _ _) _) _
  have b3 : w1.heap[N + 3]? = some (.cells #[.slice none 0 0] 36 (0, 0)) := by
    rw [hw1, hN]
    have := alloc_two ((w.alloc (.cells #[.pointer (some ⟨p, 0, none⟩)] 23)).alloc (.cells #[.slice A U c] 36)) (.cells #[.bool false] 4) (.cells #[.slice none 0 0] 36)
    refine old_blk ?_ _
    simpa using this
  have b4 : w1.heap[N + 4]? = some (.cells #[.pointer (some ⟨p, 0, none⟩)] 23 (0, 0)) := by
    rw [hw1, hN]
    have := alloc_three ((w.alloc (.cells #[.pointer (some ⟨p, 0, none⟩)] 23)).alloc (.cells #[.slice A U c] 36)) (.cells #[.bool false] 4) (.cells #[.slice none 0 0] 36) (.cells #[.pointer (some ⟨p, 0, none⟩)] 23)
    simpa using this
  have HZ := Aside0.mk hz1
  have hlt : p < N ∧ s < N := by rw [hN]; exact ⟨HH.out.p_lt, HH.out.s_lt⟩
  obtain ⟨hp1, hs1⟩ := hlt
  have HH1 := Aside0.mk (HH.out.below HBW.out)
  have HR1 := Aside0.mk (Kd.C_below HR.out HBW.out)
  have hseq := each_seq w1 (N + 4) p s U bs HH1.out (blk_cell b4 rfl)
  have HB0 := Aside0.mk b0
  have HB1 := Aside0.mk b1
  have HB2 := Aside0.mk b2
  have HB3 := Aside0.mk b3
  clear hw1 b0 b1 b2 b3 b4
  rw [← hN]
  clear hN
  have HBV := Aside0.mk (show ∀ V, Fr (fun b => b = N + 3) w1 V → Below w.heap.size w V from fun V hV => by
    rw [← HN.out]
    have h1 := HBW.out
    rw [← HN.out] at h1
    exact h1.trans (hV.below N (by omega) (fun b hb => by omega)))
  refine range_listA itG (xs := bs) (enc := encP) rfl (enters_of Try.func29 (by kernel_rfl) rfl) hseq (Below.refl _ _) (fun b hb => ?_) (fun _ => rfl)
    (fun W' => Below (N + 5) w1 W') (StI N w1 bs) (fun _ _ _ _ => False) ?hI0 ?hI ?hIx ?hstart ?h0 ?a1 ?assign ?body ?done ?stop
  · rcases hb with rfl | rfl | rfl <;> omega
  case hI0 =>
    rintro P Q hA h1 hg
    have hg2 := itG.below hA hg
    rw [hz1] at hg2
    exact h1.trans hg2
  case hI =>
    rintro M k P Q hA ⟨⟨v, h1, h2⟩, h3⟩ hg
    have hg2 := itG.below hA hg
    rw [hz1] at hg2
    exact ⟨⟨v, (hg2.block _ (by omega)).trans h1, ownsRow_itg h2 hg⟩, h3.trans (T := fun b => N + 5 ≤ b) ⟨hg2.os, hg2.tape, hg2.output, hg2.size, fun b _ hb => hg2.block b (by omega)⟩ (fun b hb hl => by rw [hz1] at hl; omega)⟩
  case hIx => intro c M k P Q hA h; exact h.elim
  case hstart =>
    rintro M W' h1 h2 h3
    exact ⟨⟨_, (h3.block _ (by omega)).trans HB3.out, World.ownsRow_nil _ _ _ _⟩, Fr.of_below (by rw [hz1]; exact h3) _⟩
  case h0 => exact Below.refl _ _
  case assign =>
    intro l' x W' K hK
    simp only [encP]
    gi_wp2
    exact hK
  case body =>
    rintro l' M k ⟨a, n⟩ W' hx hM hMW ⟨⟨v, h1, h2⟩, h3⟩
    rw [hz1] at hM
    obtain ⟨i0, hi, hi0, hi1, hi2⟩ := info_parts info_i64
    have hq := chain_mem HH.out.ok (a, n) (List.mem_of_getElem? hx)
    simp only at hq
    have hkl : k < bs.length := (List.getElem?_eq_some_iff.1 hx).1
    have HLG := Aside0.mk (longN_of HH.out.ok (List.mem_of_getElem? hx))
    have HX := Aside0.mk (show (startsI (bs.take (k + 1))).map (fun x => Value.int .i64 x) = (startsI (bs.take k)).map (fun x => Value.int .i64 x) ++ [Value.int .i64 (a : Int)] by rw [take_snoc hx, startsI, List.map_append, List.map_append]; rfl)
    obtain ⟨xs, hxs⟩ : ∃ xs, xs = (startsI (bs.take k)).map (fun x => Value.int .i64 x) := ⟨_, rfl⟩
    rw [← hxs] at h2 HX
    have k0 := h3.get HB0.out (by omega)
    have k1 := h3.get HB1.out (by omega)
    have c0 := blk_cell k0 (i := 0) rfl
    have c1 := blk_cell k1 (i := 0) rfl
    have c3 := blk_cell h1 (i := 0) rfl
    have H0 := Aside0.mk k0
    have H1 := Aside0.mk k1
    have HK3 := Aside0.mk h1
    have HO := Aside0.mk h2
    have HF := Aside0.mk h3
    have HM := Aside0.mk hM
    have HMW := Aside0.mk hMW
    clear hx hxs h1 h2 h3 k0 k1 hM hMW hseq
    gi_wp2_with (gi_at_builtin; refine wpListIn_append_own _ rfl _ _ 36 rfl M 3 i0 (.int .i64 0) 1 8 Try.underlying36 hi hi0 hi1 hi2 rfl (by decide) _ _ _ rfl (ownsRow_same HO.out (fun b hb => by obtain ⟨_, cs, t, fr, hcc⟩ := ownsRow_blk HO.out hb; exact heap_alloc_old _ _ (Array.getElem?_eq_some_iff.1 hcc).1)) ⟨W'.heap.size, 0, none⟩ 1 1 [.int .i64 (a : Int)] rfl rfl (cell_one_new _ _ _) (by simp [Value.oneCell']) (by unfold maxLen; omega) (by omega) (by have := HMW.out; simp; omega) ?_; intro v2 w2 hown2 hgrow2 _; obtain ⟨g2, cap2, rfl⟩ := ownsRow_succ hown2; have HO2 := Aside0.mk hown2; have HG2 := Aside0.mk hgrow2; clear hown2 hgrow2; have hnb : ∀ b, b < M → b < W'.heap.size → w2.heap[b]? = W'.heap[b]? := fun b hb hbl => (HG2.out.block b (by simp; omega) (fun e => by have := (ownsRow_blk HO.out e.symm).1; omega)).trans (heap_alloc_old _ _ hbl); have HNB := Aside0.mk hnb; clear hnb; have q3 := (HNB.out (N + 3) (by have := HM.out; omega) (blk_lt HK3.out)).trans HK3.out; have e3 := blk_cell q3 (i := 0) rfl; have f3 := blk_free q3 0; have Q3 := Aside0.mk q3; clear q3; have q0 := (HNB.out N (by have := HM.out; omega) (blk_lt H0.out)).trans H0.out; have e0 := blk_cell q0 (i := 0) rfl; have q1 := (HNB.out (N + 1) (by have := HM.out; omega) (blk_lt H1.out)).trans H1.out; have e1 := blk_cell q1 (i := 0) rfl; clear q0 q1)
    obtain ⟨V, hV⟩ : ∃ V, V = w2.setCell ⟨N + 3, 0, none⟩ (.slice (some ⟨g2, 0, none⟩) (k + 1) cap2) := ⟨_, rfl⟩
    have hVt := hV
    rw [show (⟨N + 3, 0, none⟩ : Addr) = ⟨N + 1 + 1 + 1, 0, none⟩ from rfl] at hVt
    rw [← hVt]
    clear hVt
    have HFV := Aside0.mk (show Fr (fun b => b = N + 3) w1 V from by
      have hb2 : Fr (fun b => M ≤ b) W' w2 := ⟨HG2.out.os, HG2.out.tape, HG2.out.output, Nat.le_trans (by simp) HG2.out.size, fun b hb hn => HNB.out b (by omega) hb⟩
      have h3 : Fr (fun b => b = N + 3) w1 w2 := HF.out.trans hb2 (fun b hb hl => by have := HM.out; rw [HZ.out] at hl; omega)
      rw [hV]
      exact h3.setCell (.inl rfl) _)
    have v0 : V.cell? ⟨N, 0, none⟩ = some (.pointer (some ⟨p, 0, none⟩)) := by rw [hV]; exact cell_far e0 _ (by simp)
    have HV3 := Aside0.mk (show V.heap[N + 3]? = some (.cells #[.slice (some ⟨g2, 0, none⟩) (k + 1) cap2] 36 (0, 0)) by rw [hV]; have := blk_set Q3.out 0 (.slice (some ⟨g2, 0, none⟩) (k + 1) cap2); simpa using this)
    have HOV := Aside0.mk (show V.ownsRow M 3 1 (.slice (some ⟨g2, 0, none⟩) (k + 1) cap2) (k + 1) (xs ++ [Value.int .i64 (a : Int)]) from ownsRow_same HO2.out (fun b hb => by
      have := (ownsRow_blk HO2.out hb).1
      rw [hV]
      exact Below.heap_setCell _ _ _ _ (by have := HM.out; simp only; omega)))
    have HKV := Aside0.mk (show KeepI w1.heap.size M (SB (N + 4) p s) W' V from ⟨by have := HG2.out.size; rw [hV]; simp at this ⊢; omega, fun b hb hs => by
      have hM := HM.out
      have hz := HZ.out
      have hbM : b < M ∧ b ≠ N + 3 := by
        rcases hs with hs | rfl | rfl | rfl
        · omega
        · omega
        · omega
        · omega
      rw [hV]
      exact (Below.heap_setCell _ _ _ _ hbM.2).trans (HNB.out b hbM.1 hb)⟩)
    clear hV c0 c1 c3 e0 e1 e3 f3
    have hVB := HBV.out V HFV.out
    refine ⟨trivial, ?_⟩
    refine (CallsIn.inRound l' (callsIn_wide (n := 12).2 (rlong_calls (Kd.C_below HR.out hVB) hc hmU HH.out.ok (a : Int) (by constructor <;> omega)))).mono ?_
    rintro e V2 ⟨rfl, hv2⟩
    rw [longI_nat, HLG.out]
    have v02 := bel_cellB hv2 v0
    have HV2 := Aside0.mk hv2
    have hV2B := bel_stepB hVB hv2
    have HL2 := Aside0.mk (CallsIn.inRound l' (callsIn_wide (n := 12).2 (long_calls V2 p s U bs (HH.out.below hV2B) (a : Int) (wf_nat (by omega)))))
    clear hv2 hVB hV2B v0
    have hfL : Fence.wide.fn 18 := trivial
    gi_wp2_with (gi_at_call 18; refine HL2.out.mono ?_; clear HL2; rintro e V3 ⟨rfl, rfl⟩; rw [longI_nat, HLG.out])
    have hz := HZ.out
    have hM9 := HM.out
    refine ⟨HKV.out.trans (KeepI.of_below HV2.out), ⟨⟨_, (HV2.out.block _ (blk_lt HV3.out)).trans HV3.out, ?_⟩, HFV.out.then_below HV2.out⟩⟩
    rw [HX.out]
    exact ownsRow_same HOV.out (fun b hb => by obtain ⟨_, cs, t, fr, hcc⟩ := ownsRow_blk HOV.out hb; exact HV2.out.block b (Array.getElem?_eq_some_iff.1 hcc).1)
  case done =>
    rintro M W' hM hMW ⟨⟨v, h1, h2⟩, h3⟩ hD
    rw [List.take_length] at h2
    have hRv : Kd.R (Kd.int .i64) 3 W' M (fun _ => True) v (startsI bs) := Kd.R_of_own (by rw [startsI_len]; exact h2) (fun _ _ => trivial)
    obtain ⟨A5, c5, rfl, hc5, hC5⟩ := Kd.R_reads hRv
    rw [startsI_len] at hc5 hC5 h1
    have k0 := h3.get HB0.out (by omega)
    have k1 := h3.get HB1.out (by omega)
    have k2 := h3.get HB2.out (by omega)
    have c0 := blk_cell k0 (i := 0) rfl
    have c1 := blk_cell k1 (i := 0) rfl
    have c3 := blk_cell h1 (i := 0) rfl
    have HK2 := Aside0.mk k2
    have HT1 := Aside0.mk ((HBV.out W' h3).drew)
    have HC5 := Aside0.mk (show Kd.C (Kd.int .i64) W'.drew A5 bs.length (startsI bs) from Kd.C_below hC5 ((Below.refl _ _).drew))
    have HD := Aside0.mk hD
    have HM := Aside0.mk hM
    have HMW := Aside0.mk hMW
    have hbl2 : bs.length ≤ 1024 := by omega
    rw [hz1] at hD
    have HDZ := Aside0.mk hD
    clear hseq h1 h2 h3 hRv hC5 k0 k1 k2 hD hM hMW
    gi_wp2
    refine Ystart_ (m := 26) (S := fun w' => w'.cell? ⟨N + 3, 0, none⟩ = some (.slice A5 bs.length c5) ∧ w'.cell? ⟨N + 1, 0, none⟩ = some (.slice A U c) ∧ w'.cell? ⟨N, 0, none⟩ = some (.pointer (some ⟨p, 0, none⟩))) (ds := [25]) #[false, false, false, false, false, false, false, false, false, false, false, false, false, false, false, false, false, false, false, false, false, false, false, false, false, false] (by kernel_rfl) rfl rfl (fun _ => trivial) (by kernel_rfl) ⟨c3, c1, c0⟩ (fun hHeld => ?_)
    refine Ytake_ (i := 0) (N := some 28) (v := ?_) (a' := ?_) #[true, false, false, false, false, false, false, false, false, false, false, false, false, false, false, false, false, false, false, false, false, false, false, false, false, false] rfl rfl (by kernel_rfl) (fun _ _ _ h => h) (Or.inl ⟨by rfl, ?_⟩) hHeld ?_ ?_
    rotate_left
    · rintro w' ⟨s0, s1, s2⟩
      go_simp
      with_reducible rfl
    rotate_left
    · simp only [Act.put, List.setIfInBounds_toArray, List.set_cons_zero, List.set_cons_succ, i64_w, i32_w]
      rfl
    refine Ytake_ (i := 1) (N := some 29) (v := ?_) (a' := ?_) #[true, true, false, false, false, false, false, false, false, false, false, false, false, false, false, false, false, false, false, false, false, false, false, false, false, false] rfl rfl (by kernel_rfl) (fun _ _ _ h => h) (Or.inl ⟨by rfl, ?_⟩) hHeld ?_ ?_
    rotate_left
    · rintro w' ⟨s0, s1, s2⟩
      go_simp
      with_reducible rfl
    rotate_left
    · simp only [Act.put, List.setIfInBounds_toArray, List.set_cons_zero, List.set_cons_succ, i64_w, i32_w]
      rfl
    refine Yone_ (i := 2) (N := some 30) #[true, true, true, false, false, false, false, false, false, false, false, false, false, false, false, false, false, false, false, false, false, false, false, false, false, false] rfl rfl (by kernel_rfl) (by decide) (fun K hK => ?_)
    refine Ygoes_ Try.func24 (by kernel_rfl) rfl #[.slice A U c] (by rfl) rfl rfl (by simp only [List.map_toArray, List.map_cons, List.map_nil]; rfl) (by first | exact .inl rfl | exact .inr ⟨_, rfl⟩) ?_
    with_reducible refine (rstarts_calls (Kd.C_below HR.out HT1.out) hc hmU HH.out.ok).mono ?_
    rintro e w2 ⟨A6, c6, rfl, hC6, hc6, hb2⟩
    refine ⟨_, rfl, ?_⟩
    have HC6 := Aside0.mk hC6
    have HB2x := Aside0.mk hb2
    have HT2 := Aside0.mk (bel_stepB HT1.out hb2)
    clear hC6 hb2
    refine hK.out _ _ ⟨(bel_cellB HB2x.out hHeld.1), (bel_cellB HB2x.out hHeld.2.1), (bel_cellB HB2x.out hHeld.2.2)⟩ (fun hHeld => ?_)
    clear hK K
    refine Ynorm_ (a' := ?_) ?_ ?_
    rotate_left
    · show Act.put _ (some 30) _ = _
      simp only [Act.put, List.setIfInBounds_toArray, List.set_cons_zero, List.set_cons_succ, i64_w, i32_w]
      rfl
    refine Yone_ (i := 3) (N := some 31) #[true, true, true, true, false, false, false, false, false, false, false, false, false, false, false, false, false, false, false, false, false, false, false, false, false, false] rfl rfl (by kernel_rfl) (by decide) (fun K hK => ?_)
    refine Ygoes_ Try.func36 (by kernel_rfl) rfl #[.slice A5 bs.length c5, .slice A6 bs.length c6] (by rfl) rfl rfl (by simp only [List.map_toArray, List.map_cons, List.map_nil]; rfl) (by first | exact .inl rfl | exact .inr ⟨_, rfl⟩) ?_
    with_reducible refine (rsame_calls (Kd.C_below HC5.out HB2x.out) hc5 HC6.out hc6 hbl2).mono ?_
    rintro e w3 ⟨rfl, hb3⟩
    refine ⟨_, rfl, ?_⟩
    have HB3x := Aside0.mk hb3
    have HT3 := Aside0.mk (bel_stepB HT2.out hb3)
    clear hb3
    refine hK.out _ _ ⟨(bel_cellB HB3x.out hHeld.1), (bel_cellB HB3x.out hHeld.2.1), (bel_cellB HB3x.out hHeld.2.2)⟩ (fun hHeld => ?_)
    clear hK K
    refine Ynorm_ (a' := ?_) ?_ ?_
    rotate_left
    · show Act.put _ (some 31) _ = _
      simp only [Act.put, List.setIfInBounds_toArray, List.set_cons_zero, List.set_cons_succ, i64_w, i32_w]
      rfl
    refine Ypure_ (i := 4) (N := some 32) (v := ?_) (a' := ?_) #[true, true, true, true, true, false, false, false, false, false, false, false, false, false, false, false, false, false, false, false, false, false, false, false, false, false] rfl rfl (by kernel_rfl) (fun _ _ _ h => h) (Or.inl ⟨by rfl, ?_⟩) ?_ ?_
    rotate_left
    · intro w'
      go_simp
      with_reducible rfl
    rotate_left
    · simp only [Act.put, List.setIfInBounds_toArray, List.set_cons_zero, List.set_cons_succ, i64_w, i32_w]
      rfl
    refine Ytake_ (i := 5) (N := some 33) (v := ?_) (a' := ?_) #[true, true, true, true, true, true, false, false, false, false, false, false, false, false, false, false, false, false, false, false, false, false, false, false, false, false] rfl rfl (by kernel_rfl) (fun _ _ _ h => h) (Or.inl ⟨by rfl, ?_⟩) hHeld ?_ ?_
    rotate_left
    · rintro w' ⟨s0, s1, s2⟩
      go_simp
      with_reducible rfl
    rotate_left
    · simp only [Act.put, List.setIfInBounds_toArray, List.set_cons_zero, List.set_cons_succ, i64_w, i32_w]
      rfl
    refine Ytake_ (i := 7) (N := some 35) (v := ?_) (a' := ?_) #[true, true, true, true, true, true, false, true, false, false, false, false, false, false, false, false, false, false, false, false, false, false, false, false, false, false] rfl rfl (by kernel_rfl) (fun _ _ _ h => h) (Or.inl ⟨by rfl, ?_⟩) hHeld ?_ ?_
    rotate_left
    · rintro w' ⟨s0, s1, s2⟩
      go_simp
      with_reducible rfl
    rotate_left
    · simp only [Act.put, List.setIfInBounds_toArray, List.set_cons_zero, List.set_cons_succ, i64_w, i32_w]
      rfl
    refine Ypure_ (i := 8) (N := some 36) (v := ?_) (a' := ?_) #[true, true, true, true, true, true, false, true, true, false, false, false, false, false, false, false, false, false, false, false, false, false, false, false, false, false] rfl rfl (by kernel_rfl) (fun _ _ _ h => h) (Or.inl ⟨by rfl, ?_⟩) ?_ ?_
    rotate_left
    · intro w'
      go_simp
      with_reducible rfl
    rotate_left
    · simp only [Act.put, List.setIfInBounds_toArray, List.set_cons_zero, List.set_cons_succ, i64_w, i32_w]
      rfl
    refine Yone_ (i := 6) (N := some 34) #[true, true, true, true, true, true, true, true, true, false, false, false, false, false, false, false, false, false, false, false, false, false, false, false, false, false] rfl rfl (by kernel_rfl) (by decide) (fun K hK => ?_)
    refine Ygoes_ Try.func37 (by kernel_rfl) rfl #[.pointer (some ⟨p, 0, none⟩)] (by rfl) rfl rfl (by simp only [List.map_toArray, List.map_cons, List.map_nil]; rfl) (by first | exact .inl rfl | exact .inr ⟨_, rfl⟩) ?_
    with_reducible refine (units_calls w3 p s U bs (HH.out.below HT3.out)).mono ?_
    rintro e w3b ⟨rfl, rfl⟩
    refine ⟨_, rfl, ?_⟩
    refine hK.out _ _ ⟨hHeld.1, hHeld.2.1, hHeld.2.2⟩ (fun hHeld => ?_)
    clear hK K
    refine Ynorm_ (a' := ?_) ?_ ?_
    rotate_left
    · show Act.put _ (some 34) _ = _
      simp only [Act.put, List.setIfInBounds_toArray, List.set_cons_zero, List.set_cons_succ, i64_w, i32_w]
      rfl
    refine Ypure_ (i := 9) (N := some 37) (v := ?_) (a' := ?_) #[true, true, true, true, true, true, true, true, true, true, false, false, false, false, false, false, false, false, false, false, false, false, false, false, false, false] rfl rfl (by kernel_rfl) (fun _ _ _ h => h) (Or.inl ⟨by rfl, ?_⟩) ?_ ?_
    rotate_left
    · intro w'
      go_simp
      with_reducible rfl
    rotate_left
    · simp only [Act.put, List.setIfInBounds_toArray, List.set_cons_zero, List.set_cons_succ, i64_w, i32_w]
      rfl
    refine Ypure_ (i := 10) (N := some 38) (v := ?_) (a' := ?_) #[true, true, true, true, true, true, true, true, true, true, true, false, false, false, false, false, false, false, false, false, false, false, false, false, false, false] rfl rfl (by kernel_rfl) (fun _ _ _ h => h) (Or.inl ⟨by rfl, ?_⟩) ?_ ?_
    rotate_left
    · intro w'
      go_simp
      with_reducible rfl
    rotate_left
    · simp only [Act.put, List.setIfInBounds_toArray, List.set_cons_zero, List.set_cons_succ, i64_w, i32_w]
      rfl
    refine Ypure_ (i := 11) (N := some 39) (v := ?_) (a' := ?_) #[true, true, true, true, true, true, true, true, true, true, true, true, false, false, false, false, false, false, false, false, false, false, false, false, false, false] rfl rfl (by kernel_rfl) (fun _ _ _ h => h) (Or.inl ⟨by rfl, ?_⟩) ?_ ?_
    rotate_left
    · intro w'
      go_simp
      with_reducible rfl
    rotate_left
    · simp only [Act.put, List.setIfInBounds_toArray, List.set_cons_zero, List.set_cons_succ, i64_w, i32_w]
      rfl
    refine Ytake_ (i := 12) (N := some 40) (v := ?_) (a' := ?_) #[true, true, true, true, true, true, true, true, true, true, true, true, true, false, false, false, false, false, false, false, false, false, false, false, false, false] rfl rfl (by kernel_rfl) (fun _ _ _ h => h) (Or.inl ⟨by rfl, ?_⟩) hHeld ?_ ?_
    rotate_left
    · rintro w' ⟨s0, s1, s2⟩
      go_simp
      with_reducible rfl
    rotate_left
    · simp only [Act.put, List.setIfInBounds_toArray, List.set_cons_zero, List.set_cons_succ, i64_w, i32_w]
      rfl
    refine Ytake_ (i := 14) (N := some 42) (v := ?_) (a' := ?_) #[true, true, true, true, true, true, true, true, true, true, true, true, true, false, true, false, false, false, false, false, false, false, false, false, false, false] rfl rfl (by kernel_rfl) (fun _ _ _ h => h) (Or.inl ⟨by rfl, ?_⟩) hHeld ?_ ?_
    rotate_left
    · rintro w' ⟨s0, s1, s2⟩
      go_simp
      with_reducible rfl
    rotate_left
    · simp only [Act.put, List.setIfInBounds_toArray, List.set_cons_zero, List.set_cons_succ, i64_w, i32_w]
      rfl
    refine Yone_ (i := 13) (N := some 41) #[true, true, true, true, true, true, true, true, true, true, true, true, true, true, true, false, false, false, false, false, false, false, false, false, false, false] rfl rfl (by kernel_rfl) (by decide) (fun K hK => ?_)
    refine Ygoes_ Try.func14 (by kernel_rfl) rfl #[.pointer (some ⟨p, 0, none⟩)] (by rfl) rfl rfl (by simp only [List.map_toArray, List.map_cons, List.map_nil]; rfl) (by first | exact .inl rfl | exact .inr ⟨_, rfl⟩) ?_
    with_reducible refine (used_calls w3 p s U bs (HH.out.below HT3.out)).mono ?_
    rintro e w4 ⟨rfl, hb4⟩
    refine ⟨_, rfl, ?_⟩
    have HB4x := Aside0.mk hb4
    have HT4 := Aside0.mk (bel_stepB HT3.out hb4)
    clear hb4
    refine hK.out _ _ ⟨(bel_cellB HB4x.out hHeld.1), (bel_cellB HB4x.out hHeld.2.1), (bel_cellB HB4x.out hHeld.2.2)⟩ (fun hHeld => ?_)
    clear hK K
    refine Ynorm_ (a' := ?_) ?_ ?_
    rotate_left
    · show Act.put _ (some 41) _ = _
      simp only [Act.put, List.setIfInBounds_toArray, List.set_cons_zero, List.set_cons_succ, i64_w, i32_w]
      rfl
    refine Yone_ (i := 15) (N := some 43) #[true, true, true, true, true, true, true, true, true, true, true, true, true, true, true, true, false, false, false, false, false, false, false, false, false, false] rfl rfl (by kernel_rfl) (by decide) (fun K hK => ?_)
    refine Ygoes_ Try.func38 (by kernel_rfl) rfl #[.slice A U c] (by rfl) rfl rfl (by simp only [List.map_toArray, List.map_cons, List.map_nil]; rfl) (by first | exact .inl rfl | exact .inr ⟨_, rfl⟩) ?_
    with_reducible refine (rused_calls (Kd.C_below HR.out HT4.out) hc hmU HH.out.ok).mono ?_
    rintro e w5 ⟨rfl, hb5⟩
    refine ⟨_, rfl, ?_⟩
    have HB5x := Aside0.mk hb5
    have HT5 := Aside0.mk (bel_stepB HT4.out hb5)
    clear hb5
    refine hK.out _ _ ⟨(bel_cellB HB5x.out hHeld.1), (bel_cellB HB5x.out hHeld.2.1), (bel_cellB HB5x.out hHeld.2.2)⟩ (fun hHeld => ?_)
    clear hK K
    refine Ynorm_ (a' := ?_) ?_ ?_
    rotate_left
    · show Act.put _ (some 43) _ = _
      simp only [Act.put, List.setIfInBounds_toArray, List.set_cons_zero, List.set_cons_succ, i64_w, i32_w]
      rfl
    refine Ypure_ (i := 16) (N := some 44) (v := ?_) (a' := ?_) #[true, true, true, true, true, true, true, true, true, true, true, true, true, true, true, true, true, false, false, false, false, false, false, false, false, false] rfl rfl (by kernel_rfl) (fun _ _ _ h => h) (Or.inl ⟨by rfl, ?_⟩) ?_ ?_
    rotate_left
    · intro w'
      go_simp
      with_reducible rfl
    rotate_left
    · simp only [Act.put, List.setIfInBounds_toArray, List.set_cons_zero, List.set_cons_succ, i64_w, i32_w]
      rfl
    refine Ypure_ (i := 17) (N := some 45) (v := ?_) (a' := ?_) #[true, true, true, true, true, true, true, true, true, true, true, true, true, true, true, true, true, true, false, false, false, false, false, false, false, false] rfl rfl (by kernel_rfl) (fun _ _ _ h => h) (Or.inl ⟨by rfl, ?_⟩) ?_ ?_
    rotate_left
    · intro w'
      go_simp
      with_reducible rfl
    rotate_left
    · simp only [Act.put, List.setIfInBounds_toArray, List.set_cons_zero, List.set_cons_succ, i64_w, i32_w]
      rfl
    refine Ypure_ (i := 18) (N := some 46) (v := ?_) (a' := ?_) #[true, true, true, true, true, true, true, true, true, true, true, true, true, true, true, true, true, true, true, false, false, false, false, false, false, false] rfl rfl (by kernel_rfl) (fun _ _ _ h => h) (Or.inl ⟨by rfl, ?_⟩) ?_ ?_
    rotate_left
    · intro w'
      go_simp
      with_reducible rfl
    rotate_left
    · simp only [Act.put, List.setIfInBounds_toArray, List.set_cons_zero, List.set_cons_succ, i64_w, i32_w]
      rfl
    refine Ytake_ (i := 19) (N := some 47) (v := ?_) (a' := ?_) #[true, true, true, true, true, true, true, true, true, true, true, true, true, true, true, true, true, true, true, true, false, false, false, false, false, false] rfl rfl (by kernel_rfl) (fun _ _ _ h => h) (Or.inl ⟨by rfl, ?_⟩) hHeld ?_ ?_
    rotate_left
    · rintro w' ⟨s0, s1, s2⟩
      go_simp
      with_reducible rfl
    rotate_left
    · simp only [Act.put, List.setIfInBounds_toArray, List.set_cons_zero, List.set_cons_succ, i64_w, i32_w]
      rfl
    refine Ytake_ (i := 21) (N := some 49) (v := ?_) (a' := ?_) #[true, true, true, true, true, true, true, true, true, true, true, true, true, true, true, true, true, true, true, true, false, true, false, false, false, false] rfl rfl (by kernel_rfl) (fun _ _ _ h => h) (Or.inl ⟨by rfl, ?_⟩) hHeld ?_ ?_
    rotate_left
    · rintro w' ⟨s0, s1, s2⟩
      go_simp
      with_reducible rfl
    rotate_left
    · simp only [Act.put, List.setIfInBounds_toArray, List.set_cons_zero, List.set_cons_succ, i64_w, i32_w]
      rfl
    refine Yone_ (i := 20) (N := some 48) #[true, true, true, true, true, true, true, true, true, true, true, true, true, true, true, true, true, true, true, true, true, true, false, false, false, false] rfl rfl (by kernel_rfl) (by decide) (fun K hK => ?_)
    refine Ygoes_ Try.func15 (by kernel_rfl) rfl #[.pointer (some ⟨p, 0, none⟩)] (by rfl) rfl rfl (by simp only [List.map_toArray, List.map_cons, List.map_nil]; rfl) (by first | exact .inl rfl | exact .inr ⟨_, rfl⟩) ?_
    with_reducible refine (largest_calls w5 p s U bs (HH.out.below HT5.out)).mono ?_
    rintro e w6 ⟨rfl, hb6⟩
    refine ⟨_, rfl, ?_⟩
    have HB6x := Aside0.mk hb6
    have HT6 := Aside0.mk (bel_stepB HT5.out hb6)
    clear hb6
    refine hK.out _ _ ⟨(bel_cellB HB6x.out hHeld.1), (bel_cellB HB6x.out hHeld.2.1), (bel_cellB HB6x.out hHeld.2.2)⟩ (fun hHeld => ?_)
    clear hK K
    refine Ynorm_ (a' := ?_) ?_ ?_
    rotate_left
    · show Act.put _ (some 48) _ = _
      simp only [Act.put, List.setIfInBounds_toArray, List.set_cons_zero, List.set_cons_succ, i64_w, i32_w]
      rfl
    refine Yone_ (i := 22) (N := some 50) #[true, true, true, true, true, true, true, true, true, true, true, true, true, true, true, true, true, true, true, true, true, true, true, false, false, false] rfl rfl (by kernel_rfl) (by decide) (fun K hK => ?_)
    refine Ygoes_ Try.func39 (by kernel_rfl) rfl #[.slice A U c] (by rfl) rfl rfl (by simp only [List.map_toArray, List.map_cons, List.map_nil]; rfl) (by first | exact .inl rfl | exact .inr ⟨_, rfl⟩) ?_
    with_reducible refine (rlarge_calls (Kd.C_below HR.out HT6.out) hc hmU HH.out.ok).mono ?_
    rintro e w7 ⟨rfl, hb7⟩
    refine ⟨_, rfl, ?_⟩
    have HB7x := Aside0.mk hb7
    have HT7 := Aside0.mk (bel_stepB HT6.out hb7)
    have HW7 := Aside0.mk (show Below W'.heap.size W' w7 from (Below.refl _ _).drew |> fun h => bel_stepB (bel_stepB (bel_stepB (bel_stepB (bel_stepB (bel_stepB h HB2x.out) HB3x.out) HB4x.out) HB5x.out) HB6x.out) hb7)
    have q2 := (HW7.out.block _ (blk_lt HK2.out)).trans HK2.out
    have d2 := blk_cell q2 (i := 0) rfl
    have f2 := blk_free q2 0
    have Q2 := Aside0.mk q2
    clear hb7 q2
    refine hK.out _ _ ⟨(bel_cellB HB7x.out hHeld.1), (bel_cellB HB7x.out hHeld.2.1), (bel_cellB HB7x.out hHeld.2.2)⟩ (fun hHeld => ?_)
    clear hK K
    refine Ynorm_ (a' := ?_) ?_ ?_
    rotate_left
    · show Act.put _ (some 50) _ = _
      simp only [Act.put, List.setIfInBounds_toArray, List.set_cons_zero, List.set_cons_succ, i64_w, i32_w]
      rfl
    refine Ypure_ (i := 23) (N := some 51) (v := ?_) (a' := ?_) #[true, true, true, true, true, true, true, true, true, true, true, true, true, true, true, true, true, true, true, true, true, true, true, true, false, false] rfl rfl (by kernel_rfl) (fun _ _ _ h => h) (Or.inl ⟨by rfl, ?_⟩) ?_ ?_
    rotate_left
    · intro w'
      go_simp
      with_reducible rfl
    rotate_left
    · simp only [Act.put, List.setIfInBounds_toArray, List.set_cons_zero, List.set_cons_succ, i64_w, i32_w]
      rfl
    refine Ypure_ (i := 24) (N := some 52) (v := ?_) (a' := ?_) #[true, true, true, true, true, true, true, true, true, true, true, true, true, true, true, true, true, true, true, true, true, true, true, true, true, false] rfl rfl (by kernel_rfl) (fun _ _ _ h => h) (Or.inl ⟨by rfl, ?_⟩) ?_ ?_
    rotate_left
    · intro w'
      go_simp
      with_reducible rfl
    rotate_left
    · simp only [Act.put, List.setIfInBounds_toArray, List.set_cons_zero, List.set_cons_succ, i64_w, i32_w]
      rfl
    refine Ylast_ (i := 25) (N := none) #[true, true, true, true, true, true, true, true, true, true, true, true, true, true, true, true, true, true, true, true, true, true, true, true, true, true] rfl rfl (by kernel_rfl) (by decide) (fun K hK => ?_)
    refine Yskip_ (w1 := ?_) (by rfl) rfl ?_ ?_
    rotate_left
    · go_simp
      rfl
    refine hK.out _ _ ?_
    clear hK K
    refine Ydone_ (by kernel_rfl) ?_
    clear hHeld d2 f2
    obtain ⟨V, hV⟩ : ∃ V, V = w7.setCell ⟨N + 1 + 1, 0, none⟩ (.bool true) := ⟨_, rfl⟩
    rw [← hV]
    have hz := HZ.out
    have hV2 : V = w7.setCell ⟨N + 2, 0, none⟩ (.bool true) := hV
    have HVB := Aside0.mk (show V.heap[N + 2]? = some (.cells #[.bool true] 4 (0, 0)) by rw [hV2]; have := blk_set Q2.out 0 (.bool true); simpa using this)
    have HDV := Aside0.mk (show V.heap[w1.heap.size]? = some (.deferred (some [])) by
      rw [hV2]
      exact blk_far ((HW7.out.block _ (blk_lt HD.out)).trans HD.out) _ (by simp only; omega))
    have HFV := Aside0.mk (show Fr (fun b => b = N + 2) w7 V by rw [hV2]; exact (Fr.refl (fun b => b = N + 2) w7).setCell (.inl rfl) _)
    clear hV hV2
    gi_wp2
    refine ⟨by simp, .inl ⟨_, _, rfl, run_takeDeferred HDV.out, ?_⟩⟩
    refine ⟨_, results_c1 rfl _ _ (N + 2) _ rfl ((World.putObj_heap_other (by omega)).trans HVB.out) Try.underlying4 rfl, rfl, ?_⟩
    have hn := HN.out
    have h7 := HT7.out
    have hb : Below w.heap.size w V := h7.trans (HFV.out.below _ h7.size (fun b hb => by omega))
    exact hb.trans (itB.put (by omega) HDV.out rfl)
  case stop => intro c M k W' _ _ _ h; exact h.elim
end Go.Proofs.Ytgendnoafemgpaa.Hand
namespace Go.Proofs.Ytgendnoafemgpaa.Hand
open Go.RowKit Go.Proofs.YtgendnoafemgpaaW.PrintWords

section
variable {α : Type} {encA : α → List Value} {sz : Nat} {hl : ∀ x, (encA x).length = sz} {h1 : ∀ x, ∀ u ∈ encA x, u.oneCell' = true}
theorem rows_of {w : World} {a : Addr} {k : Nat} {Wf : α → Prop} (hx : ∀ i, i < k → ∃ x : α, Wf x ∧ ∀ j, j < sz → w.cell? (a.add (i * sz + j)) = (encA x)[j]?) :
    ∃ L : List α, L.length = k ∧ ∀ i x, L[i]? = some x → Wf x ∧ ∀ j, j < sz → w.cell? (a.add (i * sz + j)) = (encA x)[j]? := by
  induction k with
  | zero => exact ⟨[], rfl, fun i x h => by simp at h⟩
  | succ k ih =>
    obtain ⟨L, hL, h⟩ := ih (fun i hi => hx i (by omega))
    obtain ⟨x, hw, hc⟩ := hx k (by omega)
    refine ⟨L ++ [x], by simp [hL], fun i y hy => ?_⟩
    by_cases hi : i < L.length
    · rw [List.getElem?_append_left hi] at hy
      exact h i y hy
    · have hik : i = L.length := by
        have := (List.getElem?_eq_some_iff.1 hy).1
        simp at this
        omega
      subst hik
      rw [List.getElem?_append_right (Nat.le_refl _)] at hy
      simp at hy
      subst hy
      rw [hL]
      exact ⟨hw, hc⟩
theorem add_add (a : Addr) (i j : Nat) : (a.add i).add j = a.add (i + j) := by
  unfold Addr.add
  split <;> split <;> simp_all <;> (try omega)
theorem open_flat {H : Type} {enc : TypeId × Value → H} {P : Program} {w : World} {spare : Nat → Bool} {held : Bool} {t e : TypeId} {A : Option Addr} {len cap : Nat} {d : DataW H} {ps : List MemPlace} {Wf : α → Prop}
    (ht : P.underlying t = some (.slice e)) (hsz : P.cellsOf e = sz) (hel : ∀ n cs y, DataW.trod enc P w 0 spare held n e cs = some y → ∃ x : α, cs = encA x ∧ Wf x)
    (h : DataW.Trod enc P w 0 spare held t (.slice A len cap) d ps) : ∃ L : List α, len = L.length ∧ (flat encA sz hl h1).C w A L.length L ∧ ∀ x ∈ L, Wf x := by
  obtain ⟨fuel, hf⟩ := h
  rcases Go.Deep.open_slice ht hf with ⟨hcs, _⟩ | ⟨a, l, c, m, n, D, Pl, hcs, _, hlc, hm, hmm, _, hx⟩
  · simp [Value.cells] at hcs
    obtain ⟨rfl, rfl, rfl⟩ := hcs
    exact ⟨[], rfl, ⟨rfl, by simp, fun h => absurd h (by simp)⟩, fun x hx => absurd hx (by simp)⟩
  · simp [Value.cells] at hcs
    obtain ⟨rfl, rfl, rfl⟩ := hcs
    have hlm : len ≤ m := by rw [hmm]; split <;> omega
    obtain ⟨L, hL, hLx⟩ := rows_of (w := w) (a := a) (k := len) (sz := sz) (encA := encA) (Wf := Wf) (fun i hi => by
      obtain ⟨cs', h2, h3⟩ := hx i (by omega)
      obtain ⟨x, rfl, hw⟩ := hel _ _ _ h3
      rw [hsz] at h2
      obtain ⟨_, _, hc⟩ := World.cells?_some h2
      exact ⟨x, hw, fun j hj => by rw [← add_add]; exact hc j hj⟩)
    refine ⟨L, hL.symm, ⟨rfl, by rw [hL]; simp only [maxLen] at hm; omega, fun _ => ⟨a, rfl, fun i x hix => ?_⟩⟩, fun x hx => ?_⟩
    · obtain ⟨_, hc⟩ := hLx i x hix
      refine ⟨encA x, hl x, rfl, fun j u hu => ?_⟩
      rw [← hu]
      exact hc j (by have := (List.getElem?_eq_some_iff.1 hu).1; rwa [hl] at this)
    · obtain ⟨i, hi⟩ := List.getElem?_of_mem hx
      exact (hLx i x hi).1
end
end Go.Proofs.Ytgendnoafemgpaa.Hand
namespace Go.Proofs.Ytgendnoafemgpaa.Hand
open Go.RowKit Go.Maps Go.Sort Go.Shelf Go.Proofs.YtgendnoafemgpaaW.PrintWords Go.Proofs.YtgendnoafemgpaaW.PrintLast Go.Proofs.Ytgendnoafemgpaa.PHandRB
set_option linter.unusedVariables false
set_option linter.unusedSimpArgs false
abbrev OpB := Int × Int × Int
def encB (o : OpB) : List Value := [.int .i64 o.1, .int .i64 o.2.1, .int .i64 o.2.2]
theorem encB_len (o : OpB) : (encB o).length = 3 := rfl
theorem encB_one (o : OpB) : ∀ u ∈ encB o, u.oneCell' = true := by
  intro u hu
  simp only [encB, List.mem_cons, List.not_mem_nil, or_false] at hu
  rcases hu with rfl | rfl | rfl <;> rfl
def OpBK : Kd OpB := flat encB 3 encB_len encB_one
def WfB (o : OpB) : Prop := I64 o.2.1 ∧ I64 o.2.2
theorem list3b {α : Type} {l : List α} (h : l.length = 3) : ∃ a b c, l = [a, b, c] := by
  match l, h with
  | [a, b, c], _ => exact ⟨a, b, c, rfl⟩
theorem opB_el {H : Type} {enc : TypeId × Value → H} {w : World} {spare : Nat → Bool} {held : Bool} : ∀ n cs y, DataW.trod enc Try.prog w 0 spare held n 29 cs = some y → ∃ x : OpB, cs = encB x ∧ WfB x := by
  intro n cs y h
  obtain ⟨y0, y1, y2, m, _, hlen, h0, h1, h2⟩ := Go.Deep.trod_struct3 Try.underlying29 h
  obtain ⟨a, b, c, rfl⟩ := list3b (hlen.trans (show Try.prog.cellsOf 29 = 3 by kernel_rfl))
  rw [show Try.prog.cellsOf 3 = 1 by kernel_rfl] at h0 h1 h2
  obtain ⟨q, e0, _, w0⟩ := DataW.trod_int Try.underlying3 h0
  obtain ⟨s, e1, _, w1⟩ := DataW.trod_int Try.underlying3 h1
  obtain ⟨g, e2, _, w2⟩ := DataW.trod_int Try.underlying3 h2
  simp at e0 e1 e2
  subst e0 e1 e2
  exact ⟨(q, s, g), rfl, wf_i64 w1, wf_i64 w2⟩
theorem open_opsB {H : Type} {enc : TypeId × Value → H} {w : World} {spare : Nat → Bool} {held : Bool} {A : Option Addr} {len cap : Nat} {d : DataW H} {ps : List MemPlace}
    (h : DataW.Trod enc Try.prog w 0 spare held 22 (.slice A len cap) d ps) : ∃ os : List OpB, len = os.length ∧ OpBK.C w A os.length os ∧ ∀ o ∈ os, WfB o :=
  open_flat Try.underlying22 (by kernel_rfl) opB_el h
def mkB (U : Nat) (bs : List Pc) (os : List OpB) : List Pc := os.foldl (fun bs o => (doR U bs o.1 o.2.1 o.2.2).1) bs
theorem mkB_chain {U : Nat} : ∀ (os : List OpB) (bs : List Pc), Chain 0 bs U → Chain 0 (mkB U bs os) U
  | [], bs, h => h
  | o :: os, bs, h => mkB_chain os _ (doR_chain h _ _ _)
def fewB (U : Int) (n : Nat) : Bool := decide (n ≤ 60) && (decide (U ≤ 60) || decide (1024 < U))
theorem few_calls (w : World) (U : Int) (A : Option Addr) (n c : Nat) (hn : n ≤ 9223372036854775807) : Calls Try.prog 16 #[.int .i64 U, .slice A n c] w fun e w' => e = .returned (.bool (fewB U n)) ∧ w = w' := by
  go_enter Try.func16, Try.ntmps16
  by_cases h1 : n ≤ 60
  · by_cases h2 : U ≤ 60
    · have hf : fewB U n = true := by simp [fewB, h1, h2]
      rw [hf]
      go_wp2
      go_ret
      exact ⟨rfl, rfl⟩
    · have hf : fewB U n = decide (1024 < U) := by simp [fewB, h1, h2]
      rw [hf]
      go_wp2
      go_ret
      exact ⟨rfl, rfl⟩
  · have hf : fewB U n = false := by simp [fewB, h1]
    rw [hf]
    go_wp2
    go_ret
    exact ⟨rfl, rfl⟩
/-- The document's units lie where no call on the blocks writes. -/
def Ap (p s : Nat) (b : Nat) : Prop := b ≠ p ∧ b ≠ s
theorem Ri_keep {w w1 : World} {e base : Nat} {ok : Nat → Prop} {v : Value} {xs : List Int} (h : Kd.R (Kd.int .i64) e w base ok v xs) {s : Nat} (hm : ∃ es clock, w.heap[s]? = some (.map es clock)) (hf : Fr (fun b => b = s) w w1) : Kd.R (Kd.int .i64) e w1 base ok v xs := by
  obtain ⟨_, inner, ho, _⟩ := id h
  refine R_keep h (fun b hb => ?_)
  obtain ⟨cs, hc⟩ := own_typed ho b hb
  refine hf.block b (Array.getElem?_eq_some_iff.1 hc).1 (fun e => ?_)
  obtain ⟨es, clock, hs⟩ := hm
  rw [e, hs] at hc
  cases hc
theorem rdo_calls (w0 w : World) (hB : Below w0.heap.size w0 w) (p s U : Nat) (bs : List Pc) (h : HasB w p s U bs) (A : Option Addr) (c : Nat) (hr : Kd.R (Kd.int .i64) 3 w w0.heap.size (Ap p s) (.slice A U c) (occ U bs)) (kind a n : Int) (ha : I64 a) (hn : I64 n) :
    Calls Try.prog 34 #[.slice A U c, .agg #[.int .i64 kind, .int .i64 a, .int .i64 n]] w fun e w' => ∃ A2 c2, e = .returned (.tuple #[.slice A2 U c2, .int .i64 (doR U bs kind a n).2.1, .int .i64 (doR U bs kind a n).2.2]) ∧
      Kd.R (Kd.int .i64) 3 w' w0.heap.size (Ap p s) (.slice A2 U c2) (occ U (doR U bs kind a n).1) ∧ U ≤ c2 ∧ HasB w' p s U bs ∧ Below w0.heap.size w0 w' ∧ Fr (fun b => (Value.slice A U c).ownBlock = some b) w w' := by
  have hr2 : Kd.R (Kd.int .i64) 3 w w0.heap.size (fun b => (Value.slice A U c).ownBlock = some b) (.slice A U c) (occ U bs) := Kd.R_of_own (by
    obtain ⟨_, inner, ho, _⟩ := id hr
    exact Kd.own_of_R hr) (fun b hb => hb)
  refine (ecdysisref10_Do.calls 6000 (fun b => (Value.slice A U c).ownBlock = some b) (.slice A U c) (occ U bs) kind a n _ _ _ w0 w hB hr2 (do_f h.max h.ok kind a n ha hn 6000 (Nat.le_refl _))).mono ?_
  rintro e w' ⟨v, rfl, hrv, hb, hk⟩
  have hfr : Fr (fun b => (Value.slice A U c).ownBlock = some b) w w' := ⟨hb.os.trans hB.os.symm, hb.tape.trans hB.tape.symm, hb.output.trans hB.output.symm, hk.1, fun b hbl hn => hk.2 b hbl hn⟩
  have hap : ∀ b, (Value.slice A U c).ownBlock = some b → Ap p s b := hr.1
  obtain ⟨A2, c2, rfl, hc2, _⟩ := Kd.R_reads hrv
  rw [occ_len] at hrv hc2 ⊢
  refine ⟨A2, c2, rfl, Kd.R_mono hrv (fun b hb => ?_), hc2, h.fr hfr (fun e => (hap _ e).1 rfl) (fun e => (hap _ e).2 rfl), hb, hfr⟩
  rcases hb with hb | hb
  · exact hap b hb
  · have := h.p_lt
    have := h.s_lt
    exact ⟨by omega, by omega⟩
/-- What made leaves. -/
def MadeB (w : World) (U : Nat) (bs : List Pc) (e : Ending) (w' : World) : Prop :=
  ∃ (p s : Nat) (A : Option Addr) (c : Nat), e = .returned (.tuple #[.pointer (some ⟨p, 0, none⟩), .slice A U c, .bool true]) ∧ HasB w' p s U bs ∧ Kd.R (Kd.int .i64) 3 w' w.heap.size (Ap p s) (.slice A U c) (occ U bs) ∧ U ≤ c ∧ w.heap.size ≤ p ∧ w.heap.size ≤ s ∧ Below w.heap.size w w'
theorem occ_nil (U : Nat) : occ U [] = List.replicate U 0 := by
  apply List.ext_getElem
  · simp [occ]
  · intro i h1 h2
    simp [occ, own]
theorem rnew_calls (w : World) (U : Nat) (hU : U ≤ 1024) : Calls Try.prog 33 #[.int .i64 (U : Int)] w fun e w' => ∃ A c, e = .returned (.tuple #[.slice A U c, .bool true]) ∧ Kd.R (Kd.int .i64) 3 w' w.heap.size (fun _ => True) (.slice A U c) (occ U []) ∧ U ≤ c ∧ Below w.heap.size w w' := by
  have hf : ecdysisref10_New.f (U : Int) = some (occ U [], true) := by
    rw [ecdysisref10_New.f, if_neg (by omega), if_neg (by omega), if_pos (by omega), if_pos (by omega), Int.toNat_natCast, occ_nil]
  refine (ecdysisref10_New.calls U _ _ w hf).mono ?_
  rintro e w' ⟨v, rfl, hr, hb⟩
  obtain ⟨A, c, rfl, hc, _⟩ := Kd.R_reads hr
  rw [occ_len] at hr hc ⊢
  exact ⟨A, c, rfl, hr, hc, hb⟩
theorem R_C {w : World} {e base : Nat} {ok : Nat → Prop} {A : Option Addr} {U c : Nat} {bs : List Pc} (h : Kd.R (Kd.int .i64) e w base ok (.slice A U c) (occ U bs)) : Kd.C (Kd.int .i64) w A U (occ U bs) := by
  obtain ⟨A2, c2, e2, _, hC⟩ := Kd.R_reads h
  simp only [Value.slice.injEq] at e2
  obtain ⟨rfl, -, rfl⟩ := e2
  rw [occ_len] at hC
  exact hC
theorem R_step {w w1 : World} {e base : Nat} {ok : Nat → Prop} {v : Value} {xs : List Int} (h : Kd.R (Kd.int .i64) e w base ok v xs) (hb : Below w.heap.size w w1) : Kd.R (Kd.int .i64) e w1 base ok v xs := R_keep h (fun b hb' => hb.block b (R_base h hb').2)
set_option maxRecDepth 100000 in
set_option maxHeartbeats 8000000 in
theorem made_calls (w : World) (U : Nat) (hU : U ≤ 1024) (B : Option Addr) (d : Nat) (os : List OpB) (ho : OpBK.C w B os.length os) (hwo : ∀ o ∈ os, WfB o) (hol : os.length ≤ 65536) :
    Calls Try.prog 17 #[.int .i64 (U : Int), .slice B os.length d] w (MadeB w U (mkB U [] os)) := by
  have HO := Aside0.mk ho
  have HWO := Aside0.mk hwo
  clear ho hwo
  go_enter Try.func17, Try.ntmps17
  go_wp2_with (first | (go_at_call 10; (with_reducible refine (new_good w U hU).mono ?_); rintro e w1 ⟨p, s, rfl, hb1, hbw1, hp1, hs1⟩; have HH1 := Aside0.mk hb1; have HB1 := Aside0.mk hbw1; have HP := Aside0.mk hp1; have HS := Aside0.mk hs1; clear hb1 hbw1 hp1 hs1) | (go_at_call 33; (with_reducible refine (rnew_calls w1 U hU).mono ?_); rintro e w2 ⟨A, c, rfl, hr2, hc2, hb2⟩; have HH2 := Aside0.mk (HH1.out.below hb2); have HB2 := Aside0.mk (bel_stepB HB1.out hb2); have HR2 := Aside0.mk hr2; have HCC := Aside0.mk hc2; clear hr2 hb2 hc2))
  have hp2 := HH2.out.p_lt
  have HRA := Aside0.mk (show Kd.R (Kd.int .i64) 3 w2 w.heap.size (Ap p s) (.slice A U c) (occ U []) from by
    refine Kd.R_of_own ?_ (fun b hb => ?_)
    · have h1 := Kd.own_of_R HR2.out
      exact ownsRow_base_a h1 HB1.out.size
    · have h2 := R_base HR2.out hb
      have h3 := HH1.out.p_lt
      have h4 := HH1.out.s_lt
      exact ⟨by omega, by omega⟩)
  clear hp2
  go_loopw [9, 40] (fun lv i wr => ∃ (k : Nat) (bs : List Pc) (Ak : Option Addr) (ck : Nat), k ≤ os.length ∧ i = .int .i64 k ∧ lv = .slice Ak U ck ∧ Aside0 (bs = mkB U [] (os.take k)) ∧ Aside0 (HasB wr p s U bs) ∧ Aside0 (Kd.R (Kd.int .i64) 3 wr w.heap.size (Ap p s) (.slice Ak U ck) (occ U bs)) ∧ Aside0 (U ≤ ck) ∧ Aside0 (Below w.heap.size w wr)) (fun _ i _ => (os.length - intOf i).toNat)
  case atStart => exact ⟨0, [], A, c, Nat.zero_le _, rfl, rfl, ⟨by rw [List.take_zero]; rfl⟩, HH2, HRA, HCC, HB2⟩
  case round =>
    obtain ⟨k, bs, Ak, ck, hk, rfl, rfl, HE, HH, HRk, HCk, HB⟩ := hrel
    clear HH2 HRA HCC HB2 HR2 HH1
    by_cases hlt : k < os.length
    · obtain ⟨o, hx⟩ : ∃ o, os[k]? = some o := ⟨_, List.getElem?_eq_getElem hlt⟩
      obtain ⟨bb, ob, hB, hcb⟩ := C_at (Kd.C_below HO.out HB.out) (by decide) hx
      subst hB
      have HX := Aside0.mk (show os.take (k + 1) = os.take k ++ [o] by rw [List.take_add_one, hx]; rfl)
      obtain ⟨hwa, hwn⟩ := HWO.out o (List.mem_of_getElem? hx)
      have HWA := Aside0.mk hwa
      have HWN := Aside0.mk hwn
      obtain ⟨q, a, n⟩ := o
      have b0 : wr.cell? ⟨bb, ob + k * 3, none⟩ = some (.int .i64 q) := hcb 0 (by decide)
      have b1 : wr.cell? ⟨bb, ob + k * 3 + 1, none⟩ = some (.int .i64 a) := hcb 1 (by decide)
      have b2 : wr.cell? ⟨bb, ob + k * 3 + 2, none⟩ = some (.int .i64 n) := hcb 2 (by decide)
      clear hcb hx hwa hwn
      obtain ⟨⟨bn, vv, ee⟩, hr⟩ : ∃ r, r = doR U bs q a n := ⟨_, rfl⟩
      have HDO := Aside0.mk hr
      clear hr
      go_wp2_with (first | (go_at_call 34; (with_reducible refine (rdo_calls w _ (below_alloc HB.out _) p s U bs (HH.out.below (below_alloc (Below.refl _ _) _)) Ak ck (R_step HRk.out (below_alloc (Below.refl _ _) _)) q a n HWA.out HWN.out).mono ?_); rw [← HDO.out]; rintro e w4 ⟨A4, c4, rfl, hr4, hc4, hh4, hb4, hf4⟩; have HB4 := Aside0.mk hb4; have HH4 := Aside0.mk hh4; have HR4 := Aside0.mk hr4; have HC4 := Aside0.mk hc4; have hob := hf4.get (heap_alloc_new wr _) (fun e => Nat.lt_irrefl _ (R_base HRk.out e).2); have o0 := blk_cell hob (i := 0) rfl; have o1 := blk_cell hob (i := 1) rfl; have o2 := blk_cell hob (i := 2) rfl; clear hr4 hb4 hob hc4 hh4 hf4) | (go_at_call 12; (with_reducible refine (does_calls _ p s U bs HH4.out q a n HWA.out HWN.out).mono ?_); rw [← HDO.out]; rintro e w5 ⟨rfl, hh5, hf5⟩; have HH5 := Aside0.mk hh5; have HR5 := Aside0.mk (Ri_keep HR4.out HH4.out.map.blk hf5); have HB5 := Aside0.mk (HB4.out.trans (hf5.below _ HB4.out.size (fun b (hb : b = s) => by rw [hb]; exact HS.out))); clear hh5 hf5) | (go_at_call 21; (with_reducible refine (stands_calls _ p s U bn HH5.out A4 c4 (R_C HR5.out) HC4.out).mono ?_); rintro e w6 ⟨rfl, hb6⟩; have HB6 := Aside0.mk (bel_stepB HB5.out hb6); have HH6 := Aside0.mk (HH5.out.below hb6); have HR6 := Aside0.mk (R_step HR5.out hb6); clear hb6))
      trace_state
      refine ⟨⟨k + 1, bn, A4, c4, by omega, by go_num, rfl, ⟨?_⟩, HH6, HR6, HC4, HB6⟩, by simp [intOf]; omega⟩
      rw [HX.out, mkB, List.foldl_append, show List.foldl _ [] (os.take k) = bs from HE.out.symm]
      exact congrArg (fun r => r.1) HDO.out
    · obtain rfl : k = os.length := by omega
      rw [List.take_length] at HE
      go_wp2
      go_ret3
      exact ⟨p, s, _, _, rfl, HE.out ▸ HH.out, HE.out ▸ HRk.out, HCk.out, HP.out, HS.out, HB.out⟩
end Go.Proofs.Ytgendnoafemgpaa.Hand
namespace Go.Proofs.Ytgendnoafemgpaa.Hand
open Go.RowKit Go.Maps Go.Proofs.YtgendnoafemgpaaW.PrintWords
set_option linter.unusedVariables false
set_option linter.unusedSimpArgs false
theorem fewB_of {U : Int} {n : Nat} (h : fewB U n = true) : n ≤ 60 ∧ (U ≤ 60 ∨ 1024 < U) := by
  simp only [fewB, Bool.and_eq_true, Bool.or_eq_true, decide_eq_true_eq] at h
  exact h
theorem ops_len {w : World} {B : Option Addr} {os : List OpB} (h : OpBK.C w B os.length os) : os.length ≤ 9223372036854775807 := h.2.1
set_option maxHeartbeats 2000000 in
theorem blocksAll_walk (U : Int) (B : Option Addr) (d : Nat) (os : List OpB) (w : World) (hU : (Lit.int .i64 U).wf = true) (ho : OpBK.C w B os.length os) (hwo : ∀ o ∈ os, WfB o) :
    Calls Try.prog 4 #[.int .i64 U, .slice B os.length d] w fun e w' => e = .returned (.bool true) ∧ Below w.heap.size w w' := by
  have hln := ops_len ho
  have hwU := wf_i64 hU
  cases hf : fewB U os.length with
  | false =>
    have HF := Aside0.mk hf
    clear ho hwo hf
    go_enter Try.func4, Try.ntmps4
    go_wp2_with (first | (go_at_call 16; (with_reducible refine (few_calls _ _ B _ d hln).mono ?_); rw [HF.out]; rintro e wF ⟨rfl, rfl⟩) | (go_at_call 11; (with_reducible refine (bk_alive _).mono ?_); rintro e wA ⟨rfl, hbA⟩; have HBA := Aside0.mk hbA; clear hbA))
    go_ret
    exact ⟨rfl, HBA.out⟩
  | true =>
    have HF := Aside0.mk hf
    obtain ⟨h1, h2⟩ := fewB_of hf
    by_cases hbad : U < 0 ∨ 1024 < U
    · have HBD := Aside0.mk hbad
      clear ho hwo hf
      go_enter Try.func4, Try.ntmps4
      rcases hbad with hbad | hbad
      · go_wp2_with (first | (go_at_call 16; (with_reducible refine (few_calls _ _ B _ d hln).mono ?_); rw [HF.out]; rintro e wF ⟨rfl, rfl⟩) | (go_at_call 11; (with_reducible refine (bk_alive _).mono ?_); rintro e wA ⟨rfl, hbA⟩; have HBA := Aside0.mk hbA; clear hbA) | (go_at_call 10; (with_reducible refine (new_bad _ U HBD.out).mono ?_); rintro e w1 ⟨rfl, rfl⟩))
        go_ret
        exact ⟨rfl, HBA.out⟩
      · go_wp2_with (first | (go_at_call 16; (with_reducible refine (few_calls _ _ B _ d hln).mono ?_); rw [HF.out]; rintro e wF ⟨rfl, rfl⟩) | (go_at_call 11; (with_reducible refine (bk_alive _).mono ?_); rintro e wA ⟨rfl, hbA⟩; have HBA := Aside0.mk hbA; clear hbA) | (go_at_call 10; (with_reducible refine (new_bad _ U HBD.out).mono ?_); rintro e w1 ⟨rfl, rfl⟩))
        go_ret
        exact ⟨rfl, HBA.out⟩
    · obtain ⟨V, rfl⟩ : ∃ V : Nat, U = V := ⟨U.toNat, by omega⟩
      have HM := Aside0.mk (made_calls w V (by omega) B d os ho hwo (by omega))
      obtain ⟨bs, hbs⟩ : ∃ bs, bs = mkB V [] os := ⟨_, rfl⟩
      rw [← hbs] at HM
      clear ho hwo hf hbs h2
      go_enter Try.func4, Try.ntmps4
      go_wp2_with (first | (go_at_call 16; (with_reducible refine (few_calls _ _ B _ d hln).mono ?_); rw [HF.out]; rintro e wF ⟨rfl, rfl⟩) | (go_at_call 17; (with_reducible refine HM.out.mono ?_); rintro e w1 ⟨p, s, A, c, rfl, hh1, hr1, hc1, hp1, hs1, hb1⟩; have HH1 := Aside0.mk hh1; have HR1 := Aside0.mk hr1; have HC1 := Aside0.mk hc1; have HP1 := Aside0.mk hp1; have HS1 := Aside0.mk hs1; have HB1 := Aside0.mk hb1; clear hh1 hr1 hc1 hp1 hs1 hb1) | (go_at_call 11; (with_reducible refine (bk_alive _).mono ?_); rintro e wA ⟨rfl, hbA⟩; have HBA := Aside0.mk (bel_stepB HB1.out hbA); have HHA := Aside0.mk (HH1.out.below hbA); have HRA := Aside0.mk (R_step HR1.out hbA); clear hbA) | (go_at_call 18; (with_reducible refine (long_calls _ p s V bs HHA.out (-1) (by decide)).mono ?_); rintro e w2 ⟨rfl, rfl⟩; rw [show longI bs (-1) = 0 from rfl]) | (go_at_call 18; (with_reducible refine (long_calls _ p s V bs HHA.out (V : Int) (wf_nat (by omega))).mono ?_); rintro e w2 ⟨rfl, rfl⟩; rw [show longI bs (V : Int) = 0 from by
            rw [longI_nat]
            rcases Nat.eq_zero_or_pos (longN bs V) with h0 | h0
            · rw [h0]; rfl
            · exact absurd (HHA.out.ok.mem_longN h0) (Nat.lt_irrefl _)]))
      go_ret
      exact ⟨rfl, HBA.out⟩
end Go.Proofs.Ytgendnoafemgpaa.Hand
namespace Go.Proofs.Ytgendnoafemgpaa.Hand
open Go.RowKit Go.Maps Go.Proofs.YtgendnoafemgpaaW.PrintWords
set_option linter.unusedVariables false
set_option linter.unusedSimpArgs false
theorem most_acc : ∀ (gs : List Pc) (m : Nat), m ≤ gs.foldl (fun m g => max m g.2) m ∧ (∀ g ∈ gs, g.2 ≤ gs.foldl (fun m g => max m g.2) m) ∧ (gs.foldl (fun m g => max m g.2) m = m ∨ ∃ g ∈ gs, g.2 = gs.foldl (fun m g => max m g.2) m)
  | [], m => ⟨Nat.le_refl _, (fun g hg => nomatch hg), .inl rfl⟩
  | x :: l, m => by
    obtain ⟨h1, h2, h3⟩ := most_acc l (max m x.2)
    simp only [List.foldl_cons, List.mem_cons, forall_eq_or_imp, exists_eq_or_imp]
    refine ⟨by omega, ⟨by omega, h2⟩, ?_⟩
    rcases h3 with h3 | h3
    · by_cases hx : m ≤ x.2
      · exact .inr (.inl (by omega))
      · exact .inl (by omega)
    · exact .inr (.inr h3)
theorem most_le {gs : List Pc} {g : Pc} (h : g ∈ gs) : g.2 ≤ mostN gs := (most_acc gs 0).2.1 g h
theorem most_is {gs : List Pc} (h : 0 < mostN gs) : ∃ g ∈ gs, g.2 = mostN gs := by
  rcases (most_acc gs 0).2.2 with h1 | h1
  · have : mostN gs = 0 := h1
    omega
  · exact h1
theorem most_max {bs : List Pc} {U : Nat} (h : Chain 0 bs U) : mostN (gaps 0 bs U) ≤ U := by
  rcases Nat.eq_zero_or_pos (mostN (gaps 0 bs U)) with h0 | h0
  · omega
  · obtain ⟨g, hg, e⟩ := most_is h0
    have := gaps_mem h g hg
    omega
theorem take_more {bs : List Pc} {U n : Nat} (h : mostN (gaps 0 bs U) < n) : takeR U bs n = (bs, 0, 100) := by
  have : (gaps 0 bs U).find? (takeQ n) = none := by
    rw [List.find?_eq_none]
    intro g hg
    have := most_le hg
    simp [takeQ]
    omega
  rw [takeR, this]
theorem take_fit {bs : List Pc} {U n : Nat} (hc : Chain 0 bs U) (hn : 1 ≤ n) (h : n ≤ mostN (gaps 0 bs U)) : ∃ g ∈ gaps 0 bs U, takeR U bs n = (ins g.1 n bs, (g.1 : Int), 0) ∧ n ≤ g.2 ∧ longN bs g.1 = 0 := by
  obtain ⟨g0, hg0, e⟩ := most_is (gs := gaps 0 bs U) (by omega)
  cases hf : (gaps 0 bs U).find? (takeQ n) with
  | none =>
    have := List.find?_eq_none.1 hf g0 hg0
    simp [takeQ] at this
    omega
  | some g =>
    have hq := List.find?_some hf
    have hm := List.mem_of_find?_eq_some hf
    simp only [takeQ, decide_eq_true_eq] at hq
    refine ⟨g, hm, by rw [takeR, hf], hq, ?_⟩
    have hgm := gaps_mem hc g hm
    rcases Nat.eq_zero_or_pos (longN bs g.1) with h0 | h0
    · exact h0
    · obtain ⟨q, hq1, hq2⟩ := (longN_pos hc).1 h0
      exact absurd ((own_gap hc (Nat.zero_le _) (by omega)).2 ⟨g, hm, Nat.le_refl _, by omega⟩) (own_start hc hq1 hq2)
set_option maxHeartbeats 4000000 in
theorem blocksLargest_walk (U : Int) (B : Option Addr) (d : Nat) (os : List OpB) (w : World) (hU : (Lit.int .i64 U).wf = true) (ho : OpBK.C w B os.length os) (hwo : ∀ o ∈ os, WfB o) :
    Calls Try.prog 7 #[.int .i64 U, .slice B os.length d] w fun e w' => e = .returned (.bool true) ∧ Below w.heap.size w w' := by
  have hln := ops_len ho
  have hwU := wf_i64 hU
  cases hf : fewB U os.length with
  | false =>
    have HF := Aside0.mk hf
    clear ho hwo hf
    go_enter Try.func7, Try.ntmps7
    go_wp2_with (first | (go_at_call 16; (with_reducible refine (few_calls _ _ B _ d hln).mono ?_); rw [HF.out]; rintro e wF ⟨rfl, rfl⟩) | (go_at_call 11; (with_reducible refine (bk_alive _).mono ?_); rintro e wA ⟨rfl, hbA⟩; have HBA := Aside0.mk hbA; clear hbA))
    go_ret
    exact ⟨rfl, HBA.out⟩
  | true =>
    have HF := Aside0.mk hf
    obtain ⟨h1, h2⟩ := fewB_of hf
    by_cases hbad : U < 0 ∨ 60 < U
    · have HBD := Aside0.mk hbad
      clear ho hwo hf
      go_enter Try.func7, Try.ntmps7
      rcases hbad with hbad | hbad
      · go_wp2_with (first | (go_at_call 16; (with_reducible refine (few_calls _ _ B _ d hln).mono ?_); rw [HF.out]; rintro e wF ⟨rfl, rfl⟩) | (go_at_call 11; (with_reducible refine (bk_alive _).mono ?_); rintro e wA ⟨rfl, hbA⟩; have HBA := Aside0.mk hbA; clear hbA))
        go_ret
        exact ⟨rfl, HBA.out⟩
      · by_cases h0 : U < 0
        · omega
        go_wp2_with (first | (go_at_call 16; (with_reducible refine (few_calls _ _ B _ d hln).mono ?_); rw [HF.out]; rintro e wF ⟨rfl, rfl⟩) | (go_at_call 11; (with_reducible refine (bk_alive _).mono ?_); rintro e wA ⟨rfl, hbA⟩; have HBA := Aside0.mk hbA; clear hbA))
        go_ret
        exact ⟨rfl, HBA.out⟩
    · obtain ⟨V, rfl⟩ : ∃ V : Nat, U = V := ⟨U.toNat, by omega⟩
      have HM := Aside0.mk (made_calls w V (by omega) B d os ho hwo (by omega))
      obtain ⟨bs, hbs⟩ : ∃ bs, bs = mkB V [] os := ⟨_, rfl⟩
      have hch : Chain 0 bs V := by rw [hbs]; exact mkB_chain os [] (Nat.zero_le _)
      rw [← hbs] at HM
      obtain ⟨n, hn⟩ : ∃ n, n = mostN (gaps 0 bs V) := ⟨_, rfl⟩
      have hnV : n ≤ V := by rw [hn]; exact most_max hch
      have hw1 : IntKind.i64.wrap ((n : Int) + 1) = n + 1 := IntWalk.i64_in _ (by omega)
      have HT1 := Aside0.mk (show (if ((n : Int) + 1) < 1 then (bs, 0, 1) else takeR V bs ((n : Int) + 1).toNat) = ((bs, 0, 100) : List Pc × Int × Int) by rw [if_neg (by omega), show ((n : Int) + 1).toNat = n + 1 by omega]; exact take_more (by omega))
      have HNN := Aside0.mk hn
      clear ho hwo hf hbs h2
      rcases Nat.eq_zero_or_pos n with h0 | h0
      · subst h0
        have HT2 := Aside0.mk (show (if ((0 : Nat) : Int) < 1 then (bs, 0, 1) else takeR V bs ((0 : Nat) : Int).toNat) = ((bs, 0, 1) : List Pc × Int × Int) by rw [if_pos (by decide)])
        clear hn hch
        go_enter Try.func7, Try.ntmps7
        go_wp2_with (first | (go_at_call 16; (with_reducible refine (few_calls _ _ B _ d hln).mono ?_); rw [HF.out]; rintro e wF ⟨rfl, rfl⟩) | (go_at_call 17; (with_reducible refine HM.out.mono ?_); rintro e w1 ⟨p, s, A, c, rfl, hh1, hr1, hc1, hp1, hs1, hb1⟩; have HH1 := Aside0.mk hh1; have HR1 := Aside0.mk hr1; have HC1 := Aside0.mk hc1; have HP1 := Aside0.mk hp1; have HS1 := Aside0.mk hs1; have HB1 := Aside0.mk hb1; clear hh1 hr1 hc1 hp1 hs1 hb1) | (go_at_call 15; (with_reducible refine (largest_calls _ p s V bs HH1.out).mono ?_); rw [← HNN.out]; rintro e w2 ⟨rfl, hb2⟩; have HB2 := Aside0.mk (bel_stepB HB1.out hb2); have HH2 := Aside0.mk (HH1.out.below hb2); have HR2 := Aside0.mk (R_step HR1.out hb2); clear hb2) | (go_at_call 19; refine (take_all _ p s V bs HH2.out 1 (by decide) _ HT1.out).mono ?_; rintro e w3 ⟨rfl, hh3, hf3⟩; have HB3 := Aside0.mk (HB2.out.trans (hf3.below _ HB2.out.size (fun b (hb : b = s) => by rw [hb]; exact HS1.out))); have HH3 := Aside0.mk hh3; have HR3 := Aside0.mk (Ri_keep HR2.out HH2.out.map.blk hf3); clear hh3 hf3 HH2) | (go_at_call 21; (with_reducible refine (stands_calls _ p s V bs HH3.out A c (R_C HR3.out) HC1.out).mono ?_); rintro e w4 ⟨rfl, hb4⟩; have HB4 := Aside0.mk (bel_stepB HB3.out hb4); have HH4 := Aside0.mk (HH3.out.below hb4); clear hb4) | (go_at_call 19; refine (take_all _ p s V bs HH4.out 0 (by decide) _ HT2.out).mono ?_; rintro e w5 ⟨rfl, hh5, hf5⟩; have HB5 := Aside0.mk (HB4.out.trans (hf5.below _ HB4.out.size (fun b (hb : b = s) => by rw [hb]; exact HS1.out))); clear hh5 hf5) | (go_at_call 11; (with_reducible refine (bk_alive _).mono ?_); rintro e wA ⟨rfl, hbA⟩; have HBA := Aside0.mk (bel_stepB HB5.out hbA); clear hbA))
        go_ret
        exact ⟨rfl, HBA.out⟩
      · obtain ⟨g, hg, ht, hng, hl0⟩ := take_fit hch h0 (by omega)
        have HT2 := Aside0.mk (show (if (n : Int) < 1 then (bs, 0, 1) else takeR V bs (n : Int).toNat) = ((ins g.1 n bs, (g.1 : Int), 0) : List Pc × Int × Int) by rw [if_neg (by omega), Int.toNat_natCast]; exact ht)
        have hgm := gaps_mem hch g hg
        have HLL := Aside0.mk (show longI (ins g.1 n bs) (g.1 : Int) = n by rw [longI_nat, longN_ins hch hl0, if_pos rfl])
        have hg1 : g.1 ≤ 1024 := by omega
        have hn0 : ¬ n = 0 := by omega
        have hn1 : ((n : Int) == 0) = false := by simp; omega
        clear hn hg ht hng hl0 hgm hch
        go_enter Try.func7, Try.ntmps7
        go_wp2_with (first | (go_at_call 16; (with_reducible refine (few_calls _ _ B _ d hln).mono ?_); rw [HF.out]; rintro e wF ⟨rfl, rfl⟩) | (go_at_call 17; (with_reducible refine HM.out.mono ?_); rintro e w1 ⟨p, s, A, c, rfl, hh1, hr1, hc1, hp1, hs1, hb1⟩; have HH1 := Aside0.mk hh1; have HR1 := Aside0.mk hr1; have HC1 := Aside0.mk hc1; have HP1 := Aside0.mk hp1; have HS1 := Aside0.mk hs1; have HB1 := Aside0.mk hb1; clear hh1 hr1 hc1 hp1 hs1 hb1) | (go_at_call 15; (with_reducible refine (largest_calls _ p s V bs HH1.out).mono ?_); rw [← HNN.out]; rintro e w2 ⟨rfl, hb2⟩; have HB2 := Aside0.mk (bel_stepB HB1.out hb2); have HH2 := Aside0.mk (HH1.out.below hb2); have HR2 := Aside0.mk (R_step HR1.out hb2); clear hb2) | (go_at_call 19; refine (take_all _ p s V bs HH2.out ((n : Int) + 1) (by constructor <;> omega) _ HT1.out).mono ?_; rintro e w3 ⟨rfl, hh3, hf3⟩; have HB3 := Aside0.mk (HB2.out.trans (hf3.below _ HB2.out.size (fun b (hb : b = s) => by rw [hb]; exact HS1.out))); have HH3 := Aside0.mk hh3; have HR3 := Aside0.mk (Ri_keep HR2.out HH2.out.map.blk hf3); clear hh3 hf3 HH2) | (go_at_call 21; (with_reducible refine (stands_calls _ p s V bs HH3.out A c (R_C HR3.out) HC1.out).mono ?_); rintro e w4 ⟨rfl, hb4⟩; have HB4 := Aside0.mk (bel_stepB HB3.out hb4); have HH4 := Aside0.mk (HH3.out.below hb4); clear hb4) | (go_at_call 19; refine (take_all _ p s V bs HH4.out (n : Int) (by constructor <;> omega) _ HT2.out).mono ?_; rintro e w5 ⟨rfl, hh5, hf5⟩; have HB5 := Aside0.mk (HB4.out.trans (hf5.below _ HB4.out.size (fun b (hb : b = s) => by rw [hb]; exact HS1.out))); have HH5 := Aside0.mk hh5; clear hh5 hf5) | (go_at_call 11; (with_reducible refine (bk_alive _).mono ?_); rintro e wA ⟨rfl, hbA⟩; have HBA := Aside0.mk (bel_stepB HB5.out hbA); have HHA := Aside0.mk (HH5.out.below hbA); clear hbA) | (go_at_call 18; (with_reducible refine (long_calls _ p s V _ HHA.out (g.1 : Int) (wf_nat (by omega))).mono ?_); rintro e w6 ⟨rfl, rfl⟩; rw [HLL.out]))
        go_ret
        exact ⟨rfl, HBA.out⟩
end Go.Proofs.Ytgendnoafemgpaa.Hand
namespace Go.Proofs.Ytgendnoafemgpaa.Hand
open Go.RowKit Go.Maps Go.Proofs.YtgendnoafemgpaaW.PrintWords
set_option linter.unusedVariables false
set_option linter.unusedSimpArgs false
theorem del_ins {bs : List Pc} {a n : Nat} (h : ∀ q ∈ bs, q.1 ≠ a) : del a (ins a n bs) = bs := by
  induction bs with
  | nil => simp [ins, del]
  | cons q l ih =>
    have hq := h q (List.mem_cons_self ..)
    have hl : ∀ q ∈ l, q.1 ≠ a := fun x hx => h x (List.mem_cons_of_mem _ hx)
    have hf : ∀ m : List Pc, (∀ q ∈ m, q.1 ≠ a) → m.filter (fun q => q.1 != a) = m := fun m hm => List.filter_eq_self.2 (fun x hx => by simpa using hm x hx)
    rw [ins]
    split
    · rw [del, List.filter_cons, if_neg (by simp)]
      exact hf _ h
    · rw [del, List.filter_cons, if_pos (by simpa using hq)]
      rw [del] at ih
      rw [ih hl]
theorem no_start {bs : List Pc} {U a : Nat} (h : Chain 0 bs U) (h0 : longN bs a = 0) : ∀ q ∈ bs, q.1 ≠ a := fun q hq e => by
  have := (longN_pos (a := a) h).2 ⟨q, hq, e⟩
  omega
set_option maxHeartbeats 4000000 in
theorem blocksTakes_walk (U : Int) (B : Option Addr) (d : Nat) (os : List OpB) (n : Int) (w : World) (hU : (Lit.int .i64 U).wf = true) (ho : OpBK.C w B os.length os) (hwo : ∀ o ∈ os, WfB o) (hnw : (Lit.int .i64 n).wf = true) :
    Calls Try.prog 5 #[.int .i64 U, .slice B os.length d, .int .i64 n] w fun e w' => e = .returned (.bool true) ∧ Below w.heap.size w w' := by
  have hln := ops_len ho
  have hwU := wf_i64 hU
  have hwn := wf_i64 hnw
  cases hf : fewB U os.length with
  | false =>
    have HF := Aside0.mk hf
    clear ho hwo hf
    go_enter Try.func5, Try.ntmps5
    go_wp2_with (first | (go_at_call 16; (with_reducible refine (few_calls _ _ B _ d hln).mono ?_); rw [HF.out]; rintro e wF ⟨rfl, rfl⟩) | (go_at_call 11; (with_reducible refine (bk_alive _).mono ?_); rintro e wA ⟨rfl, hbA⟩; have HBA := Aside0.mk hbA; clear hbA))
    go_ret
    exact ⟨rfl, HBA.out⟩
  | true =>
    have HF := Aside0.mk hf
    obtain ⟨h1, h2⟩ := fewB_of hf
    by_cases hbad : U < 0 ∨ 60 < U
    · have HBD := Aside0.mk hbad
      clear ho hwo hf
      go_enter Try.func5, Try.ntmps5
      rcases hbad with hbad | hbad
      · go_wp2_with (first | (go_at_call 16; (with_reducible refine (few_calls _ _ B _ d hln).mono ?_); rw [HF.out]; rintro e wF ⟨rfl, rfl⟩) | (go_at_call 11; (with_reducible refine (bk_alive _).mono ?_); rintro e wA ⟨rfl, hbA⟩; have HBA := Aside0.mk hbA; clear hbA))
        go_ret
        exact ⟨rfl, HBA.out⟩
      · by_cases h0 : U < 0
        · omega
        go_wp2_with (first | (go_at_call 16; (with_reducible refine (few_calls _ _ B _ d hln).mono ?_); rw [HF.out]; rintro e wF ⟨rfl, rfl⟩) | (go_at_call 11; (with_reducible refine (bk_alive _).mono ?_); rintro e wA ⟨rfl, hbA⟩; have HBA := Aside0.mk hbA; clear hbA))
        go_ret
        exact ⟨rfl, HBA.out⟩
    · obtain ⟨V, rfl⟩ : ∃ V : Nat, U = V := ⟨U.toNat, by omega⟩
      have HM := Aside0.mk (made_calls w V (by omega) B d os ho hwo (by omega))
      obtain ⟨bs, hbs⟩ : ∃ bs, bs = mkB V [] os := ⟨_, rfl⟩
      have hch : Chain 0 bs V := by rw [hbs]; exact mkB_chain os [] (Nat.zero_le _)
      rw [← hbs] at HM
      obtain ⟨m, hm⟩ : ∃ m, m = mostN (gaps 0 bs V) := ⟨_, rfl⟩
      have hmV : m ≤ V := by rw [hm]; exact most_max hch
      have HMM := Aside0.mk hm
      obtain ⟨u, hu⟩ : ∃ u, u = gsum bs := ⟨_, rfl⟩
      have HUU := Aside0.mk hu
      clear ho hwo hf hbs h2 hu
      by_cases hbadn : n < 1 ∨ (m : Int) < n
      · obtain ⟨er, her, HT⟩ : ∃ er : Int, er ≠ 0 ∧ Aside0 ((if n < 1 then (bs, 0, 1) else takeR V bs n.toNat) = ((bs, 0, er) : List Pc × Int × Int)) := by
          by_cases hn1 : n < 1
          · exact ⟨1, by decide, ⟨by rw [if_pos hn1]⟩⟩
          · exact ⟨100, by decide, ⟨by rw [if_neg hn1]; exact take_more (by omega)⟩⟩
        have her2 : (er == 0) = false := by simpa using her
        clear hm hch
        have HER := Aside0.mk her
        clear her
        go_enter Try.func5, Try.ntmps5
        by_cases hn1 : n < 1
        · go_wp2_with (first | (go_at_call 16; (with_reducible refine (few_calls _ _ B _ d hln).mono ?_); rw [HF.out]; rintro e wF ⟨rfl, rfl⟩) | (go_at_call 17; (with_reducible refine HM.out.mono ?_); rintro e w1 ⟨p, s, A, c, rfl, hh1, hr1, hc1, hp1, hs1, hb1⟩; have HH1 := Aside0.mk hh1; have HR1 := Aside0.mk hr1; have HC1 := Aside0.mk hc1; have HP1 := Aside0.mk hp1; have HS1 := Aside0.mk hs1; have HB1 := Aside0.mk hb1; clear hh1 hr1 hc1 hp1 hs1 hb1) | (go_at_call 15; (with_reducible refine (largest_calls _ p s V bs HH1.out).mono ?_); rw [← HMM.out]; rintro e w2 ⟨rfl, hb2⟩; have HB2 := Aside0.mk (bel_stepB HB1.out hb2); have HH2 := Aside0.mk (HH1.out.below hb2); clear hb2) | (go_at_call 14; (with_reducible refine (used_calls _ p s V bs HH2.out).mono ?_); rw [← HUU.out]; rintro e w3 ⟨rfl, hb3⟩; have HB3 := Aside0.mk (bel_stepB HB2.out hb3); have HH3 := Aside0.mk (HH2.out.below hb3); clear hb3 HH2) | (go_at_call 19; refine (take_all _ p s V bs HH3.out n hwn _ HT.out).mono ?_; rintro e w4 ⟨rfl, hh4, hf4⟩; have HB4 := Aside0.mk (HB3.out.trans (hf4.below _ HB3.out.size (fun b (hb : b = s) => by rw [hb]; exact HS1.out))); have HH4 := Aside0.mk hh4; clear hh4 hf4) | (go_at_call 11; (with_reducible refine (bk_alive _).mono ?_); rintro e wA ⟨rfl, hbA⟩; have HBA := Aside0.mk (bel_stepB HB4.out hbA); have HHA := Aside0.mk (HH4.out.below hbA); clear hbA) | (go_at_call 14; (with_reducible refine (used_calls _ p s V bs HHA.out).mono ?_); rw [← HUU.out]; rintro e w5 ⟨rfl, hb5⟩; have HB5 := Aside0.mk (bel_stepB HBA.out hb5); clear hb5))
          go_ret
          exact ⟨rfl, HB5.out⟩
        · have hn2 : (m : Int) < n := by omega
          go_wp2_with (first | (go_at_call 16; (with_reducible refine (few_calls _ _ B _ d hln).mono ?_); rw [HF.out]; rintro e wF ⟨rfl, rfl⟩) | (go_at_call 17; (with_reducible refine HM.out.mono ?_); rintro e w1 ⟨p, s, A, c, rfl, hh1, hr1, hc1, hp1, hs1, hb1⟩; have HH1 := Aside0.mk hh1; have HR1 := Aside0.mk hr1; have HC1 := Aside0.mk hc1; have HP1 := Aside0.mk hp1; have HS1 := Aside0.mk hs1; have HB1 := Aside0.mk hb1; clear hh1 hr1 hc1 hp1 hs1 hb1) | (go_at_call 15; (with_reducible refine (largest_calls _ p s V bs HH1.out).mono ?_); rw [← HMM.out]; rintro e w2 ⟨rfl, hb2⟩; have HB2 := Aside0.mk (bel_stepB HB1.out hb2); have HH2 := Aside0.mk (HH1.out.below hb2); clear hb2) | (go_at_call 14; (with_reducible refine (used_calls _ p s V bs HH2.out).mono ?_); rw [← HUU.out]; rintro e w3 ⟨rfl, hb3⟩; have HB3 := Aside0.mk (bel_stepB HB2.out hb3); have HH3 := Aside0.mk (HH2.out.below hb3); clear hb3 HH2) | (go_at_call 19; refine (take_all _ p s V bs HH3.out n hwn _ HT.out).mono ?_; rintro e w4 ⟨rfl, hh4, hf4⟩; have HB4 := Aside0.mk (HB3.out.trans (hf4.below _ HB3.out.size (fun b (hb : b = s) => by rw [hb]; exact HS1.out))); have HH4 := Aside0.mk hh4; clear hh4 hf4) | (go_at_call 11; (with_reducible refine (bk_alive _).mono ?_); rintro e wA ⟨rfl, hbA⟩; have HBA := Aside0.mk (bel_stepB HB4.out hbA); have HHA := Aside0.mk (HH4.out.below hbA); clear hbA) | (go_at_call 14; (with_reducible refine (used_calls _ p s V bs HHA.out).mono ?_); rw [← HUU.out]; rintro e w5 ⟨rfl, hb5⟩; have HB5 := Aside0.mk (bel_stepB HBA.out hb5); clear hb5))
          go_ret
          exact ⟨rfl, HB5.out⟩
      · obtain ⟨k, rfl⟩ : ∃ k : Nat, n = k := ⟨n.toNat, by omega⟩
        obtain ⟨g, hg, ht, hng, hl0⟩ := take_fit hch (show 1 ≤ k by omega) (by omega)
        have HT := Aside0.mk (show (if (k : Int) < 1 then (bs, 0, 1) else takeR V bs (k : Int).toNat) = ((ins g.1 k bs, (g.1 : Int), 0) : List Pc × Int × Int) by rw [if_neg (by omega), Int.toNat_natCast]; exact ht)
        have hgm := gaps_mem hch g hg
        have HFR := Aside0.mk (show (if longI (ins g.1 k bs) (g.1 : Int) = 0 then (ins g.1 k bs, 0, 101) else (del (g.1 : Int).toNat (ins g.1 k bs), 0, 0)) = ((bs, 0, 0) : List Pc × Int × Int) by
          rw [longI_nat, longN_ins hch hl0, if_pos rfl, if_neg (by omega), Int.toNat_natCast, del_ins (no_start hch hl0)])
        have HOW := Aside0.mk (show ∀ i, g.1 ≤ i → i < g.1 + k → own bs i = 0 from fun i h3 h4 => (own_gap hch (Nat.zero_le _) (by omega)).2 ⟨g, hg, h3, by omega⟩)
        have hkm : (k : Int) ≤ m := by omega
        have hg1 : g.1 + k ≤ V := by omega
        have hwk : IntKind.i64.wrap ((g.1 : Int) + k) = g.1 + k := IntWalk.i64_in _ (by omega)
        have hk1 : 1 ≤ k := by omega
        clear hm hg ht hng hl0 hgm hch hbadn
        go_enter Try.func5, Try.ntmps5
        go_wp2_with (first | (go_at_call 16; (with_reducible refine (few_calls _ _ B _ d hln).mono ?_); rw [HF.out]; rintro e wF ⟨rfl, rfl⟩) | (go_at_call 17; (with_reducible refine HM.out.mono ?_); rintro e w1 ⟨p, s, A, c, rfl, hh1, hr1, hc1, hp1, hs1, hb1⟩; have HH1 := Aside0.mk hh1; have HR1 := Aside0.mk hr1; have HC1 := Aside0.mk hc1; have HP1 := Aside0.mk hp1; have HS1 := Aside0.mk hs1; have HB1 := Aside0.mk hb1; clear hh1 hr1 hc1 hp1 hs1 hb1) | (go_at_call 15; (with_reducible refine (largest_calls _ p s V bs HH1.out).mono ?_); rw [← HMM.out]; rintro e w2 ⟨rfl, hb2⟩; have HB2 := Aside0.mk (bel_stepB HB1.out hb2); have HH2 := Aside0.mk (HH1.out.below hb2); have HR2 := Aside0.mk (R_step HR1.out hb2); clear hb2) | (go_at_call 14; (with_reducible refine (used_calls _ p s V bs HH2.out).mono ?_); rw [← HUU.out]; rintro e w3 ⟨rfl, hb3⟩; have HB3 := Aside0.mk (bel_stepB HB2.out hb3); have HH3 := Aside0.mk (HH2.out.below hb3); have HR3 := Aside0.mk (R_step HR2.out hb3); clear hb3) | (go_at_call 19; refine (take_all _ p s V bs HH3.out (k : Int) (by constructor <;> omega) _ HT.out).mono ?_; rintro e w4 ⟨rfl, hh4, hf4⟩; have HB4 := Aside0.mk (HB3.out.trans (hf4.below _ HB3.out.size (fun b (hb : b = s) => by rw [hb]; exact HS1.out))); have HH4 := Aside0.mk hh4; have HR4 := Aside0.mk (Ri_keep HR3.out HH3.out.map.blk hf4); clear hh4 hf4))
        obtain ⟨ga, ca, e1, hga, _, hcap, hc63⟩ := own_slice_form HR4.out (by rw [occ_len]; omega)
        rw [occ_len] at e1 hcap
        simp only [Value.slice.injEq] at e1
        obtain ⟨rfl, -, rfl⟩ := e1
        have HCL := Aside0.mk (show ∀ i, i < V → w4.cell? ⟨ga, i, none⟩ = some (.int .i64 (own bs i : Int)) from fun i hi => by
          have hC := R_C HR4.out
          have hR := Kd.reads_of_C (d := (0 : Int)) (occ_C hC)
          obtain ⟨ad, ea, hc⟩ := hR.2.2 (by rw [occ_len]; omega)
          obtain rfl := Option.some.inj ea
          have := hc i (by rw [occ_len]; exact hi)
          rw [add_plain] at this
          have h5 : (occ V bs).getD i 0 = (own bs i : Int) := by rw [List.getD_eq_getElem?_getD]; simp [occ, hi]
          rw [h5] at this
          simpa using this)
        obtain ⟨ng, hng⟩ : ∃ ng, ng = g.1 := ⟨_, rfl⟩
        rw [← hng] at HFR HOW hg1 hwk
        have HNG := Aside0.mk hng
        rw [← hng]
        clear hng hga
        go_loopw [14] (fun i wr => ∃ j : Nat, j ≤ k ∧ i = .int .i64 ((ng : Int) + j) ∧ wr = w4) (fun i _ => ((ng : Int) + k - intOf i).toNat)
        case atStart => exact ⟨0, Nat.zero_le _, by simp, rfl⟩
        case round =>
          obtain ⟨j, hj, rfl, rfl⟩ := hrel
          by_cases hlt : j < k
          · have hcj := HCL.out (ng + j) (by omega)
            rw [HOW.out (ng + j) (by omega) (by omega)] at hcj
            have hwj : IntKind.i64.wrap ((ng : Int) + j + 1) = ng + j + 1 := IntWalk.i64_in _ (by omega)
            obtain ⟨nj, hnj⟩ : ∃ nj, nj = ng + j := ⟨_, rfl⟩
            rw [← hnj] at hcj
            have hnji : (ng : Int) + j = nj := by omega
            rw [hnji] at hwj ⊢
            have hnV : nj < V := by omega
            have hnk : (nj : Int) < ng + k := by omega
            have HNJ := Aside0.mk hnj
            clear hnji hnj
            go_wp2
            have h6 := HNJ.out
            refine ⟨⟨j + 1, by omega, ?_, trivial⟩, by simp only [intOf]; omega⟩
            rw [show ((nj : Int) + 1) = (ng : Int) + ((j + 1 : Nat) : Int) by omega]
          · obtain rfl : j = k := by omega
            go_wp2_with (first | (go_at_call 20; refine (free_all _ p s V _ HH4.out (ng : Int) (by constructor <;> omega) (bs, 0, 0) (by rw [← HNG.out]; exact HFR.out)).mono ?_; rintro e w5 ⟨rfl, hh5, hf5⟩; have HB5 := Aside0.mk (HB4.out.trans (hf5.below _ HB4.out.size (fun b (hb : b = s) => by rw [hb]; exact HS1.out))); have HH5 := Aside0.mk hh5; have HR5 := Aside0.mk (Ri_keep HR4.out HH4.out.map.blk hf5); clear hh5 hf5) | (go_at_call 11; (with_reducible refine (bk_alive _).mono ?_); rintro e wA ⟨rfl, hbA⟩; have HBA := Aside0.mk (bel_stepB HB5.out hbA); have HHA := Aside0.mk (HH5.out.below hbA); have HRA := Aside0.mk (R_step HR5.out hbA); clear hbA) | (go_at_call 21; (with_reducible refine (stands_calls _ p s V bs HHA.out _ c (R_C HRA.out) HC1.out).mono ?_); rintro e w6 ⟨rfl, hb6⟩; have HB6 := Aside0.mk (bel_stepB HBA.out hb6); clear hb6))
            go_ret
            exact ⟨rfl, HB6.out⟩
end Go.Proofs.Ytgendnoafemgpaa.Hand
namespace Go.Proofs.Ytgendnoafemgpaa.Hand
open Go.ChangeShapes Go.WideShapes Go.ChangeAt Go.RowKit Go.Maps Go.Proofs.YtgendnoafemgpaaW.PrintWords
set_option linter.unusedVariables false
set_option linter.unusedSimpArgs false
set_option maxRecDepth 100000 in
/-- A call by value. -/
theorem open_opB {H : Type} {enc : TypeId × Value → H} {w : World} {spare : Nat → Bool} {held : Bool} {r : Reach} {b0 : Nat} {v : Value} {d : DataW H} {ps : List MemPlace}
    (hv : Value.okWide Try.prog w r b0 29 v) (h : DataW.Trod enc Try.prog w 0 spare held 29 v d ps) : ∃ x : OpB, v = .agg (encB x).toArray ∧ WfB x := by
  obtain ⟨cs, rfl, hsz⟩ := okWide_struct Try.underlying29 hv
  obtain ⟨fuel, hf⟩ := h
  obtain ⟨x, hx, hw⟩ := opB_el _ _ _ hf
  have hx2 : cs.toList = encB x := hx
  exact ⟨x, congrArg Value.agg (by rw [← hx2]), hw⟩
theorem claimR_cases {bs : List Pc} {U : Nat} (h : Chain 0 bs U) (a n : Int) : (∃ er : Int, er ≠ 0 ∧ claimR U bs a n = (bs, 0, er)) ∨ (∃ x m : Nat, a = x ∧ n = m ∧ 1 ≤ m ∧ x + m ≤ U ∧ claimR U bs a n = (ins x m bs, 0, 0) ∧ longN bs x = 0) := by
  rw [claimR]
  by_cases hb : n < 1 ∨ a < 0 ∨ (U : Int) < n ∨ (U : Int) - n < a
  · exact .inl ⟨1, by decide, by rw [if_pos hb]⟩
  · rw [if_neg hb]
    cases hf : (gaps 0 bs U).find? (claimQ a.toNat n.toNat) with
    | none => exact .inl ⟨100, by decide, rfl⟩
    | some g =>
      have hq := List.find?_some hf
      have hm := List.mem_of_find?_eq_some hf
      simp only [claimQ, decide_eq_true_eq] at hq
      refine .inr ⟨a.toNat, n.toNat, by omega, by omega, by omega, by omega, rfl, ?_⟩
      rcases Nat.eq_zero_or_pos (longN bs a.toNat) with h0 | h0
      · exact h0
      · obtain ⟨q, hq1, hq2⟩ := (longN_pos h).1 h0
        exact absurd ((own_gap h (Nat.zero_le _) (by omega)).2 ⟨g, hm, hq.1, by omega⟩) (own_start h hq1 hq2)
set_option maxRecDepth 100000 in
set_option maxHeartbeats 4000000 in
theorem blocksClaims_walk (U : Int) (B : Option Addr) (d : Nat) (os : List OpB) (o : OpB) (w : World) (hU : (Lit.int .i64 U).wf = true) (ho : OpBK.C w B os.length os) (hwo : ∀ o ∈ os, WfB o) (hw2 : WfB o) :
    Calls Try.prog 6 #[.int .i64 U, .slice B os.length d, .agg (encB o).toArray] w fun e w' => e = .returned (.bool true) ∧ Below w.heap.size w w' := by
  have hln := ops_len ho
  have hwU := wf_i64 hU
  have hu29 := Try.underlying29
  obtain ⟨q, a, n⟩ := o
  obtain ⟨hwa, hwn⟩ := hw2
  simp only at hwa hwn
  show Calls Try.prog 6 #[.int .i64 U, .slice B os.length d, .agg #[.int .i64 q, .int .i64 a, .int .i64 n]] w _
  cases hf : fewB U os.length with
  | false =>
    have HF := Aside0.mk hf
    clear ho hwo hf
    go_enter Try.func6, Try.ntmps6
    go_wp2_with (first | (go_at_call 16; (with_reducible refine (few_calls _ _ B _ d hln).mono ?_); rw [HF.out]; rintro e wF ⟨rfl, rfl⟩) | (go_at_call 11; (with_reducible refine (bk_alive _).mono ?_); rintro e wA ⟨rfl, hbA⟩; have HBA := Aside0.mk (bel_stepB (below_alloc (Below.refl w.heap.size w) _) hbA); clear hbA))
    go_ret
    exact ⟨rfl, HBA.out⟩
  | true =>
    have HF := Aside0.mk hf
    obtain ⟨h1, h2⟩ := fewB_of hf
    by_cases hbad : U < 0 ∨ 60 < U
    · have HBD := Aside0.mk hbad
      clear ho hwo hf
      go_enter Try.func6, Try.ntmps6
      rcases hbad with hbad | hbad
      · go_wp2_with (first | (go_at_call 16; (with_reducible refine (few_calls _ _ B _ d hln).mono ?_); rw [HF.out]; rintro e wF ⟨rfl, rfl⟩) | (go_at_call 11; (with_reducible refine (bk_alive _).mono ?_); rintro e wA ⟨rfl, hbA⟩; have HBA := Aside0.mk (bel_stepB (below_alloc (Below.refl w.heap.size w) _) hbA); clear hbA))
        go_ret
        exact ⟨rfl, HBA.out⟩
      · by_cases h0 : U < 0
        · omega
        go_wp2_with (first | (go_at_call 16; (with_reducible refine (few_calls _ _ B _ d hln).mono ?_); rw [HF.out]; rintro e wF ⟨rfl, rfl⟩) | (go_at_call 11; (with_reducible refine (bk_alive _).mono ?_); rintro e wA ⟨rfl, hbA⟩; have HBA := Aside0.mk (bel_stepB (below_alloc (Below.refl w.heap.size w) _) hbA); clear hbA))
        go_ret
        exact ⟨rfl, HBA.out⟩
    · obtain ⟨V, rfl⟩ : ∃ V : Nat, U = V := ⟨U.toNat, by omega⟩
      obtain ⟨wb, hwb⟩ : ∃ wb, wb = w.alloc (.cells #[.int .i64 q, .int .i64 a, .int .i64 n] 29) := ⟨_, rfl⟩
      have HW0 := Aside0.mk (show Below w.heap.size w wb by rw [hwb]; exact below_alloc (Below.refl _ _) _)
      have hblk : wb.heap[w.heap.size]? = some (.cells #[.int .i64 q, .int .i64 a, .int .i64 n] 29 (0, 0)) := by rw [hwb]; exact heap_alloc_new w _
      have HM := Aside0.mk (made_calls wb V (by omega) B d os (Kd.C_below ho HW0.out) hwo (by omega))
      obtain ⟨bs, hbs⟩ : ∃ bs, bs = mkB V [] os := ⟨_, rfl⟩
      have hch : Chain 0 bs V := by rw [hbs]; exact mkB_chain os [] (Nat.zero_le _)
      rw [← hbs] at HM
      have HBL := Aside0.mk hblk
      have HWB := Aside0.mk hwb
      rcases claimR_cases hch a n with ⟨er, her, hcl⟩ | ⟨x, m, rfl, rfl, hm1, hxm, hcl, hl0⟩
      · have HCL := Aside0.mk hcl
        have her2 : (er == 0) = false := by simpa using her
        have HER := Aside0.mk her
        clear ho hwo hf hbs h2 her hch hcl hblk hwb
        go_enter Try.func6, Try.ntmps6
        go_wp2_with (first | (go_at_call 16; (with_reducible refine (few_calls _ _ B _ d hln).mono ?_); rw [HF.out]; rintro e wF ⟨rfl, rfl⟩) | (go_at_call 17; rw [← HWB.out]; (with_reducible refine HM.out.mono ?_); rintro e w1 ⟨p, s, A, c, rfl, hh1, hr1, hc1, hp1, hs1, hb1⟩; have HH1 := Aside0.mk hh1; have HR1 := Aside0.mk hr1; have HC1 := Aside0.mk hc1; have HP1 := Aside0.mk hp1; have HS1 := Aside0.mk (Nat.le_trans HW0.out.size hs1); have hbk := (hb1.block _ (blk_lt HBL.out)).trans HBL.out; have o0 := blk_cell hbk (i := 0) rfl; have o1 := blk_cell hbk (i := 1) rfl; have o2 := blk_cell hbk (i := 2) rfl; have HB1 := Aside0.mk (bel_stepB HW0.out hb1); clear hh1 hr1 hc1 hp1 hs1 hb1 hbk) | (go_at_call 22; refine (claim_all _ p s V bs HH1.out a n _ HCL.out).mono ?_; rintro e w2 ⟨rfl, hh2, hf2⟩; have HB2 := Aside0.mk (HB1.out.trans (hf2.below _ HB1.out.size (fun b (hb : b = s) => by rw [hb]; exact HS1.out))); have HH2 := Aside0.mk hh2; have HR2 := Aside0.mk (Ri_keep HR1.out HH1.out.map.blk hf2); clear hh2 hf2) | (go_at_call 11; (with_reducible refine (bk_alive _).mono ?_); rintro e wA ⟨rfl, hbA⟩; have HBA := Aside0.mk (bel_stepB HB2.out hbA); have HHA := Aside0.mk (HH2.out.below hbA); have HRA := Aside0.mk (R_step HR2.out hbA); clear hbA) | (go_at_call 21; (with_reducible refine (stands_calls _ p s V bs HHA.out _ c (R_C HRA.out) HC1.out).mono ?_); rintro e w6 ⟨rfl, hb6⟩; have HB6 := Aside0.mk (bel_stepB HBA.out hb6); clear hb6))
        go_ret
        exact ⟨rfl, HB6.out⟩
      · have HCL := Aside0.mk hcl
        have HLL := Aside0.mk (show longI (ins x m bs) (x : Int) = m by rw [longI_nat, longN_ins hch hl0, if_pos rfl])
        have HFR := Aside0.mk (show (if longI (ins x m bs) (x : Int) = 0 then (ins x m bs, 0, 101) else (del (x : Int).toNat (ins x m bs), 0, 0)) = ((bs, 0, 0) : List Pc × Int × Int) by
          rw [longI_nat, longN_ins hch hl0, if_pos rfl, if_neg (by omega), Int.toNat_natCast, del_ins (no_start hch hl0)])
        clear ho hwo hf hbs h2 hch hcl hblk hwb hl0
        go_enter Try.func6, Try.ntmps6
        go_wp2_with (first | (go_at_call 16; (with_reducible refine (few_calls _ _ B _ d hln).mono ?_); rw [HF.out]; rintro e wF ⟨rfl, rfl⟩) | (go_at_call 17; rw [← HWB.out]; (with_reducible refine HM.out.mono ?_); rintro e w1 ⟨p, s, A, c, rfl, hh1, hr1, hc1, hp1, hs1, hb1⟩; have HH1 := Aside0.mk hh1; have HR1 := Aside0.mk hr1; have HC1 := Aside0.mk hc1; have HP1 := Aside0.mk hp1; have HS1 := Aside0.mk (Nat.le_trans HW0.out.size hs1); have HSB := Aside0.mk hs1; have hbk := (hb1.block _ (blk_lt HBL.out)).trans HBL.out; have HBK := Aside0.mk hbk; have o0 := blk_cell hbk (i := 0) rfl; have o1 := blk_cell hbk (i := 1) rfl; have o2 := blk_cell hbk (i := 2) rfl; have HB1 := Aside0.mk (bel_stepB HW0.out hb1); clear hh1 hr1 hc1 hp1 hs1 hb1 hbk) | (go_at_call 22; refine (claim_all _ p s V bs HH1.out (x : Int) (m : Int) _ HCL.out).mono ?_; rintro e w2 ⟨rfl, hh2, hf2⟩; have HB2 := Aside0.mk (HB1.out.trans (hf2.below _ HB1.out.size (fun b (hb : b = s) => by rw [hb]; exact HS1.out))); have HH2 := Aside0.mk hh2; have HR2 := Aside0.mk (Ri_keep HR1.out HH1.out.map.blk hf2); have hbk2 := hf2.get HBK.out (by have := blk_lt HBL.out; have := HSB.out; omega); have HBK2 := Aside0.mk hbk2; have p1 := blk_cell hbk2 (i := 1) rfl; have p2 := blk_cell hbk2 (i := 2) rfl; clear hh2 hf2 hbk2) | (go_at_call 18; (with_reducible refine (long_calls _ p s V _ HH2.out (x : Int) (wf_nat (by omega))).mono ?_); rintro e w3 ⟨rfl, rfl⟩; rw [HLL.out]) | (go_at_call 20; refine (free_all _ p s V _ HH2.out (x : Int) (by constructor <;> omega) (bs, 0, 0) HFR.out).mono ?_; rintro e w5 ⟨rfl, hh5, hf5⟩; have HB5 := Aside0.mk (HB2.out.trans (hf5.below _ HB2.out.size (fun b (hb : b = s) => by rw [hb]; exact HS1.out))); have HH5 := Aside0.mk hh5; have HR5 := Aside0.mk (Ri_keep HR2.out HH2.out.map.blk hf5); have hbk3 := hf5.get HBK2.out (by have := blk_lt HBL.out; have := HSB.out; omega); have HBK3 := Aside0.mk hbk3; clear hh5 hf5 hbk3) | (go_at_call 11; (with_reducible refine (bk_alive _).mono ?_); rintro e wA ⟨rfl, hbA⟩; have HBA := Aside0.mk (bel_stepB HB5.out hbA); have HHA := Aside0.mk (HH5.out.below hbA); have HRA := Aside0.mk (R_step HR5.out hbA); have hbk4 := (hbA.block _ (blk_lt HBK3.out)).trans HBK3.out; have r2 := blk_cell hbk4 (i := 2) rfl; clear hbA hbk4) | (go_at_call 21; (with_reducible refine (stands_calls _ p s V bs HHA.out _ c (R_C HRA.out) HC1.out).mono ?_); rintro e w6 ⟨rfl, hb6⟩; have HB6 := Aside0.mk (bel_stepB HBA.out hb6); clear hb6))
        go_ret
        exact ⟨rfl, HB6.out⟩
end Go.Proofs.Ytgendnoafemgpaa.Hand
