/- What a claim needs of the walks and contracts, part 4. -/
import Derived.Deep.Slices
import Derived.ChangeSame
import Derived.Lib.SmallJoins
import Derived.Deep.Strs
import Derived.Deep.QuietTactic
import Derived.Test.YtgendnoafemgpaaHandT3
namespace Go.Proofs.Ytgendnoafemgpaa.Hand
attribute [local go_sem] Oper.semAt_some
open Go.RowKit Go.Maps Go.Sort Go.Shelf Go.Proofs.YtgendnoafemgpaaW.PrintWords Go.Proofs.YtgendnoafemgpaaW.PrintLast Go.Proofs.Ytgendnoafemgpaa.PHandRB
set_option linter.unusedVariables false
set_option linter.unusedSimpArgs false
theorem drawn_below {w w' : World} (h : Drawn0 w w') : Below w.heap.size w w' := by
  obtain ⟨n, rfl⟩ := h
  exact ⟨rfl, rfl, rfl, Nat.le_refl _, fun _ _ => rfl⟩
section
variable {w : World} {A : Option Addr} {c U : Nat} {bs : List Pc}
theorem occ_C (h : Kd.C (Kd.int .i64) w A U (occ U bs)) : Kd.C (Kd.int .i64) w A (occ U bs).length (occ U bs) := by rw [occ_len]; exact h
theorem rlong_calls (hr : Kd.C (Kd.int .i64) w A U (occ U bs)) (hc : U ≤ c) (hU : U ≤ 1024) (h : Chain 0 bs U) (x : Int) (hx : I64 x) : Calls Try.prog 35 #[.slice A U c, .int .i64 x] w fun e w' => e = .returned (.int .i64 (longI bs x)) ∧ Below w.heap.size w w' := by
  have := ecdysisref10_Long.calls 2000 A c (occ U bs) x (longI bs x) w (occ_C hr) (by rw [occ_len]; exact hc) (long_f hU h x 2000 (Nat.le_refl _) hx)
  rw [occ_len] at this
  exact this.mono fun e w' he => ⟨he.1, drawn_below he.2⟩
theorem rused_calls (hr : Kd.C (Kd.int .i64) w A U (occ U bs)) (hc : U ≤ c) (hU : U ≤ 1024) (h : Chain 0 bs U) : Calls Try.prog 38 #[.slice A U c] w fun e w' => e = .returned (.int .i64 ((gsum bs : Nat) : Int)) ∧ Below w.heap.size w w' := by
  have := ecdysisref10_Used.calls 2000 A c (occ U bs) _ w (occ_C hr) (by rw [occ_len]; exact hc) (used_f hU h 2000 (Nat.le_refl _))
  rw [occ_len] at this
  exact this.mono fun e w' he => ⟨he.1, drawn_below he.2⟩
theorem rlarge_calls (hr : Kd.C (Kd.int .i64) w A U (occ U bs)) (hc : U ≤ c) (hU : U ≤ 1024) (h : Chain 0 bs U) : Calls Try.prog 39 #[.slice A U c] w fun e w' => e = .returned (.int .i64 ((mostN (gaps 0 bs U) : Nat) : Int)) ∧ Below w.heap.size w w' := by
  have := ecdysisref10_Largest.calls 2000 A c (occ U bs) _ w (occ_C hr) (by rw [occ_len]; exact hc) (large_f hU h 2000 (Nat.le_refl _))
  rw [occ_len] at this
  exact this.mono fun e w' he => ⟨he.1, drawn_below he.2⟩
theorem rstarts_calls (hr : Kd.C (Kd.int .i64) w A U (occ U bs)) (hc : U ≤ c) (hU : U ≤ 1024) (h : Chain 0 bs U) : Calls Try.prog 24 #[.slice A U c] w fun e w' => ∃ A2 c2, e = .returned (.slice A2 bs.length c2) ∧ Kd.C (Kd.int .i64) w' A2 bs.length (startsI bs) ∧ bs.length ≤ c2 ∧ Below w.heap.size w w' := by
  have := ecdysisref10_Starts.calls 2000 A c (occ U bs) (startsI bs) w (occ_C hr) (by rw [occ_len]; exact hc) (starts_f hU h 2000 (Nat.le_refl _))
  rw [occ_len] at this
  refine this.mono ?_
  rintro e w' ⟨v, rfl, hr2, hb⟩
  obtain ⟨A2, c2, rfl, hc2, hC⟩ := Kd.R_reads hr2
  rw [startsI_len] at hc2 hC ⊢
  exact ⟨A2, c2, rfl, hC, hc2, hb⟩
theorem rsame_calls {A2 : Option Addr} {c2 : Nat} (h1 : Kd.C (Kd.int .i64) w A bs.length (startsI bs)) (hc1 : bs.length ≤ c) (h2 : Kd.C (Kd.int .i64) w A2 bs.length (startsI bs)) (hc2 : bs.length ≤ c2) (hl : bs.length ≤ 1024) : Calls Try.prog 36 #[.slice A bs.length c, .slice A2 bs.length c2] w fun e w' => e = .returned (.bool true) ∧ Below w.heap.size w w' := by
  have hs := startsI_len bs
  have := ecdysisref03_Same.calls 2001 A c (startsI bs) A2 c2 (startsI bs) true w (by rw [hs]; exact h1) (by rw [hs]; exact hc1) (by rw [hs]; exact h2) (by rw [hs]; exact hc2) (same_f _ (by rw [hs]; omega) 2001 (Nat.le_refl _))
  rw [hs] at this
  exact this.mono fun e w' he => ⟨he.1, drawn_below he.2⟩
end
theorem ownsRow_same {w w1 : World} {base : Nat} {e : TypeId} {size : Nat} {v : Value} {n : Nat} {xs : List Value} (h : w.ownsRow base e size v n xs) (hb : ∀ b, v.ownBlock = some b → w1.heap[b]? = w.heap[b]?) : w1.ownsRow base e size v n xs := by
  obtain ⟨h1, h2⟩ := h
  refine ⟨h1, ?_⟩
  rcases h2 with h2 | ⟨g, cap, cur, rfl, hg, hc, rest⟩
  · exact .inl h2
  · exact .inr ⟨g, cap, cur, rfl, hg, (hb g rfl).trans hc, rest⟩
theorem ownsRow_blk {w : World} {base : Nat} {e : TypeId} {size : Nat} {v : Value} {n : Nat} {xs : List Value} (h : w.ownsRow base e size v n xs) {b : Nat} (hb : v.ownBlock = some b) : base ≤ b ∧ ∃ cs t fr, w.heap[b]? = some (.cells cs t fr) := by
  rcases h.2 with ⟨rfl, _⟩ | ⟨g, cap, cur, rfl, hg, hc, rest⟩
  · simp [Value.ownBlock] at hb
  · simp only [Value.ownBlock, Option.some.injEq] at hb
    subst hb
    exact ⟨hg, _, _, _, hc⟩
theorem ownsRow_itg {w w1 : World} {base N : Nat} {e : TypeId} {size : Nat} {v : Value} {n : Nat} {xs : List Value} (h : w.ownsRow base e size v n xs) (hg : ItG N w w1) : w1.ownsRow base e size v n xs := by
  refine ownsRow_same h (fun b hb => ?_)
  obtain ⟨_, cs, t, fr, hc⟩ := ownsRow_blk h hb
  obtain ⟨row, hgr, hr⟩ := hg
  refine hgr.block b (Array.getElem?_eq_some_iff.1 hc).1 (fun e => ?_)
  obtain ⟨_, o, ho2, hcells⟩ := hr b e.symm
  rw [hc] at ho2
  cases ho2
  cases hcells
theorem info_i64 : (Try.prog.info? 3).map (fun i => (i.zero, i.size, i.bytes)) = some (some (.int .i64 0), 1, 8) := by kernel_rfl
/-- What the loop over the blocks holds. -/
structure StI (N : Nat) (w1 : World) (bs : List Pc) (M k : Nat) (W : World) : Prop where
  ex : ∃ v, W.heap[N + 3]? = some (.cells #[v] 36 (0, 0)) ∧ W.ownsRow M 3 1 v k ((startsI (bs.take k)).map (fun x => .int .i64 x))
  fr : Fr (fun b => b = N + 3) w1 W
set_option maxRecDepth 100000 in
set_option maxHeartbeats 8000000 in
theorem stands_calls (w : World) (p s U : Nat) (bs : List Pc) (h : HasB w p s U bs) (A : Option Addr) (c : Nat) (hr : Kd.C (Kd.int .i64) w A U (occ U bs)) (hc : U ≤ c) :
    Calls Try.prog 21 #[.pointer (some ⟨p, 0, none⟩), .slice A U c] w fun e w' => e = .returned (.bool true) ∧ Below w.heap.size w w' := by
  have HH := Aside0.mk h
  have HR := Aside0.mk hr
  have hmU := h.max
  have hbl := h.ok.le_len
  have cE := fun (w : World) => callsIn_wide (n := 14).2 (each_calls w p)
  have hfE : Fence.wide.fn 13 := trivial
  clear h hr
  refine (callsIn_wide (n := 15)).1 ?_
  refine callsIn_of_wp_marks Try.func21 rfl trivial ?_ rfl
  simp only [Try.ntmps21, List.size_toArray, List.length_cons, List.length_nil, Nat.reduceAdd, Nat.reduceSub, Array.replicate_succ, Array.replicate_zero, List.push_toArray, List.append_toArray, List.nil_append, List.cons_append]
  gi_wp2_with (gi_at_call 13; refine (cE _).mono ?_; rintro e w' ⟨rfl, rfl⟩)
  clear cE hfE
  obtain ⟨w1, hw1⟩ : ∃ w1, w1 = (((((w.alloc (.cells #[.pointer (some ⟨p, 0, none⟩)] 23)).alloc (.cells #[.slice A U c] 36)).alloc (.cells #[.bool false] 4)).alloc (.cells #[.slice none 0 0] 36)).alloc (.cells #[.pointer (some ⟨p, 0, none⟩)] 23)) := ⟨_, rfl⟩
  rw [← hw1]
  obtain ⟨N, hN⟩ : ∃ N, N = w.heap.size := ⟨_, rfl⟩
  have HN := Aside0.mk hN
  have hz1 : w1.heap.size = N + 5 := by rw [hw1, hN]; simp
  have HBW := Aside0.mk (show Below w.heap.size w w1 by rw [hw1]; exact below_alloc (below_alloc (below_alloc (below_alloc (below_alloc (Below.refl _ _) _) _) _) _) _)
  have b0 : w1.heap[N]? = some (.cells #[.pointer (some ⟨p, 0, none⟩)] 23 (0, 0)) := by rw [hw1, hN]; exact old_blk (old_blk (old_blk (old_blk (heap_alloc_new w _) _) _) _) _
  have b1 : w1.heap[N + 1]? = some (.cells #[.slice A U c] 36 (0, 0)) := by rw [hw1, hN]; exact old_blk (old_blk (old_blk (alloc_two w _ _) _) _) _
  have b2 : w1.heap[N + 2]? = some (.cells #[.bool false] 4 (0, 0)) := by rw [hw1, hN]; exact old_blk (old_blk (alloc_three w _ _ _) _) _
  have b3 : w1.heap[N + 3]? = some (.cells #[.slice none 0 0] 36 (0, 0)) := by
    rw [hw1, hN]
    have := alloc_two ((w.alloc (.cells #[.pointer (some ⟨p, 0, none⟩)] 23)).alloc (.cells #[.slice A U c] 36)) (.cells #[.bool false] 4) (.cells #[.slice none 0 0] 36)
    refine old_blk ?_ _
    simpa using this
  have b4 : w1.heap[N + 4]? = some (.cells #[.pointer (some ⟨p, 0, none⟩)] 23 (0, 0)) := by
    rw [hw1, hN]
    have := alloc_three ((w.alloc (.cells #[.pointer (some ⟨p, 0, none⟩)] 23)).alloc (.cells #[.slice A U c] 36)) (.cells #[.bool false] 4) (.cells #[.slice none 0 0] 36) (.cells #[.pointer (some ⟨p, 0, none⟩)] 23)
    simpa using this
  have HZ := Aside0.mk hz1
  have hlt : p < N ∧ s < N := by rw [hN]; exact ⟨HH.out.p_lt, HH.out.s_lt⟩
  obtain ⟨hp1, hs1⟩ := hlt
  have HH1 := Aside0.mk (HH.out.below HBW.out)
  have HR1 := Aside0.mk (Kd.C_below HR.out HBW.out)
  have hseq := each_seq w1 (N + 4) p s U bs HH1.out (blk_cell b4 rfl)
  have HB0 := Aside0.mk b0
  have HB1 := Aside0.mk b1
  have HB2 := Aside0.mk b2
  have HB3 := Aside0.mk b3
  clear hw1 b0 b1 b2 b3 b4
  rw [← hN]
  clear hN
  have HBV := Aside0.mk (show ∀ V, Fr (fun b => b = N + 3) w1 V → Below w.heap.size w V from fun V hV => by
    rw [← HN.out]
    have h1 := HBW.out
    rw [← HN.out] at h1
    exact h1.trans (hV.below N (by omega) (fun b hb => by omega)))
  refine range_listA itG (xs := bs) (enc := encP) rfl (enters_of Try.func29 (by kernel_rfl) rfl) hseq (Below.refl _ _) (fun b hb => ?_) (fun _ => rfl)
    (fun W' => Below (N + 5) w1 W') (StI N w1 bs) (fun _ _ _ _ => False) ?hI0 ?hI ?hIx ?hstart ?h0 ?a1 ?assign ?body ?done ?stop
  · rcases hb with rfl | rfl | rfl <;> omega
  case hI0 =>
    rintro P Q hA h1 hg
    have hg2 := itG.below hA hg
    rw [hz1] at hg2
    exact h1.trans hg2
  case hI =>
    rintro M k P Q hA ⟨⟨v, h1, h2⟩, h3⟩ hg
    have hg2 := itG.below hA hg
    rw [hz1] at hg2
    exact ⟨⟨v, (hg2.block _ (by omega)).trans h1, ownsRow_itg h2 hg⟩, h3.trans (T := fun b => N + 5 ≤ b) ⟨hg2.os, hg2.tape, hg2.output, hg2.size, fun b _ hb => hg2.block b (by omega)⟩ (fun b hb hl => by rw [hz1] at hl; omega)⟩
  case hIx => intro c M k P Q hA h; exact h.elim
  case hstart =>
    rintro M W' h1 h2 h3
    exact ⟨⟨_, (h3.block _ (by omega)).trans HB3.out, World.ownsRow_nil _ _ _ _⟩, Fr.of_below (by rw [hz1]; exact h3) _⟩
  case h0 => exact Below.refl _ _
  case assign =>
    intro l' x W' K hK
    simp only [encP]
    gi_wp2
    exact hK
  case body =>
    rintro l' M k ⟨a, n⟩ W' hx hM hMW ⟨⟨v, h1, h2⟩, h3⟩
    rw [hz1] at hM
    obtain ⟨i0, hi, hi0, hi1, hi2⟩ := info_parts info_i64
    have hq := chain_mem HH.out.ok (a, n) (List.mem_of_getElem? hx)
    simp only at hq
    have hkl : k < bs.length := (List.getElem?_eq_some_iff.1 hx).1
    have HLG := Aside0.mk (longN_of HH.out.ok (List.mem_of_getElem? hx))
    have HX := Aside0.mk (show (startsI (bs.take (k + 1))).map (fun x => Value.int .i64 x) = (startsI (bs.take k)).map (fun x => Value.int .i64 x) ++ [Value.int .i64 (a : Int)] by rw [take_snoc hx, startsI, List.map_append, List.map_append]; rfl)
    obtain ⟨xs, hxs⟩ : ∃ xs, xs = (startsI (bs.take k)).map (fun x => Value.int .i64 x) := ⟨_, rfl⟩
    rw [← hxs] at h2 HX
    have k0 := h3.get HB0.out (by omega)
    have k1 := h3.get HB1.out (by omega)
    have c0 := blk_cell k0 (i := 0) rfl
    have c1 := blk_cell k1 (i := 0) rfl
    have c3 := blk_cell h1 (i := 0) rfl
    have H0 := Aside0.mk k0
    have H1 := Aside0.mk k1
    have HK3 := Aside0.mk h1
    have HO := Aside0.mk h2
    have HF := Aside0.mk h3
    have HM := Aside0.mk hM
    have HMW := Aside0.mk hMW
    clear hx hxs h1 h2 h3 k0 k1 hM hMW hseq
    gi_wp2_with (gi_at_builtin; refine wpListIn_append_own _ rfl _ _ 36 rfl M 3 i0 (.int .i64 0) 1 8 Try.underlying36 hi hi0 hi1 hi2 rfl (by decide) _ _ _ rfl (ownsRow_same HO.out (fun b hb => by obtain ⟨_, cs, t, fr, hcc⟩ := ownsRow_blk HO.out hb; exact heap_alloc_old _ _ (Array.getElem?_eq_some_iff.1 hcc).1)) ⟨W'.heap.size, 0, none⟩ 1 1 [.int .i64 (a : Int)] rfl rfl (cell_one_new _ _ _) (by simp [Value.oneCell']) (by unfold maxLen; omega) (by omega) (by have := HMW.out; simp; omega) ?_; intro v2 w2 hown2 hgrow2 _; obtain ⟨g2, cap2, rfl⟩ := ownsRow_succ hown2; have HO2 := Aside0.mk hown2; have HG2 := Aside0.mk hgrow2; clear hown2 hgrow2; have hnb : ∀ b, b < M → b < W'.heap.size → w2.heap[b]? = W'.heap[b]? := fun b hb hbl => (HG2.out.block b (by simp; omega) (fun e => by have := (ownsRow_blk HO.out e.symm).1; omega)).trans (heap_alloc_old _ _ hbl); have HNB := Aside0.mk hnb; clear hnb; have q3 := (HNB.out (N + 3) (by have := HM.out; omega) (blk_lt HK3.out)).trans HK3.out; have e3 := blk_cell q3 (i := 0) rfl; have f3 := blk_free q3 0; have Q3 := Aside0.mk q3; clear q3; have q0 := (HNB.out N (by have := HM.out; omega) (blk_lt H0.out)).trans H0.out; have e0 := blk_cell q0 (i := 0) rfl; have q1 := (HNB.out (N + 1) (by have := HM.out; omega) (blk_lt H1.out)).trans H1.out; have e1 := blk_cell q1 (i := 0) rfl; clear q0 q1)
    obtain ⟨V, hV⟩ : ∃ V, V = w2.setCell ⟨N + 3, 0, none⟩ (.slice (some ⟨g2, 0, none⟩) (k + 1) cap2) := ⟨_, rfl⟩
    have hVt := hV
    rw [show (⟨N + 3, 0, none⟩ : Addr) = ⟨N + 1 + 1 + 1, 0, none⟩ from rfl] at hVt
    rw [← hVt]
    clear hVt
    have HFV := Aside0.mk (show Fr (fun b => b = N + 3) w1 V from by
      have hb2 : Fr (fun b => M ≤ b) W' w2 := ⟨HG2.out.os, HG2.out.tape, HG2.out.output, Nat.le_trans (by simp) HG2.out.size, fun b hb hn => HNB.out b (by omega) hb⟩
      have h3 : Fr (fun b => b = N + 3) w1 w2 := HF.out.trans hb2 (fun b hb hl => by have := HM.out; rw [HZ.out] at hl; omega)
      rw [hV]
      exact h3.setCell (.inl rfl) _)
    have v0 : V.cell? ⟨N, 0, none⟩ = some (.pointer (some ⟨p, 0, none⟩)) := by rw [hV]; exact cell_far e0 _ (by simp)
    have HV3 := Aside0.mk (show V.heap[N + 3]? = some (.cells #[.slice (some ⟨g2, 0, none⟩) (k + 1) cap2] 36 (0, 0)) by rw [hV]; have := blk_set Q3.out 0 (.slice (some ⟨g2, 0, none⟩) (k + 1) cap2); simpa using this)
    have HOV := Aside0.mk (show V.ownsRow M 3 1 (.slice (some ⟨g2, 0, none⟩) (k + 1) cap2) (k + 1) (xs ++ [Value.int .i64 (a : Int)]) from ownsRow_same HO2.out (fun b hb => by
      have := (ownsRow_blk HO2.out hb).1
      rw [hV]
      exact Below.heap_setCell _ _ _ _ (by have := HM.out; simp only; omega)))
    have HKV := Aside0.mk (show KeepI w1.heap.size M (SB (N + 4) p s) W' V from ⟨by have := HG2.out.size; rw [hV]; simp at this ⊢; omega, fun b hb hs => by
      have hM := HM.out
      have hz := HZ.out
      have hbM : b < M ∧ b ≠ N + 3 := by
        rcases hs with hs | rfl | rfl | rfl
        · omega
        · omega
        · omega
        · omega
      rw [hV]
      exact (Below.heap_setCell _ _ _ _ hbM.2).trans (HNB.out b hbM.1 hb)⟩)
    clear hV c0 c1 c3 e0 e1 e3 f3
    have hVB := HBV.out V HFV.out
    refine ⟨trivial, ?_⟩
    refine (CallsIn.inRound l' (callsIn_wide (n := 12).2 (rlong_calls (Kd.C_below HR.out hVB) hc hmU HH.out.ok (a : Int) (by constructor <;> omega)))).mono ?_
    rintro e V2 ⟨rfl, hv2⟩
    rw [longI_nat, HLG.out]
    have v02 := bel_cellB hv2 v0
    have HV2 := Aside0.mk hv2
    have hV2B := bel_stepB hVB hv2
    have HL2 := Aside0.mk (CallsIn.inRound l' (callsIn_wide (n := 12).2 (long_calls V2 p s U bs (HH.out.below hV2B) (a : Int) (wf_nat (by omega)))))
    clear hv2 hVB hV2B v0
    have hfL : Fence.wide.fn 18 := trivial
    gi_wp2_with (gi_at_call 18; refine HL2.out.mono ?_; clear HL2; rintro e V3 ⟨rfl, rfl⟩; rw [longI_nat, HLG.out])
    have hz := HZ.out
    have hM9 := HM.out
    refine ⟨HKV.out.trans (KeepI.of_below HV2.out), ⟨⟨_, (HV2.out.block _ (blk_lt HV3.out)).trans HV3.out, ?_⟩, HFV.out.then_below HV2.out⟩⟩
    rw [HX.out]
    exact ownsRow_same HOV.out (fun b hb => by obtain ⟨_, cs, t, fr, hcc⟩ := ownsRow_blk HOV.out hb; exact HV2.out.block b (Array.getElem?_eq_some_iff.1 hcc).1)
  case done =>
    rintro M W' hM hMW ⟨⟨v, h1, h2⟩, h3⟩ hD
    rw [List.take_length] at h2
    have hRv : Kd.R (Kd.int .i64) 3 W' M (fun _ => True) v (startsI bs) := Kd.R_of_own (by rw [startsI_len]; exact h2) (fun _ _ => trivial)
    obtain ⟨A5, c5, rfl, hc5, hC5⟩ := Kd.R_reads hRv
    rw [startsI_len] at hc5 hC5 h1
    have k0 := h3.get HB0.out (by omega)
    have k1 := h3.get HB1.out (by omega)
    have k2 := h3.get HB2.out (by omega)
    have c0 := blk_cell k0 (i := 0) rfl
    have c1 := blk_cell k1 (i := 0) rfl
    have c3 := blk_cell h1 (i := 0) rfl
    have HK2 := Aside0.mk k2
    have HT1 := Aside0.mk ((HBV.out W' h3).drew)
    have HC5 := Aside0.mk (show Kd.C (Kd.int .i64) W'.drew A5 bs.length (startsI bs) from Kd.C_below hC5 ((Below.refl _ _).drew))
    have HD := Aside0.mk hD
    have HM := Aside0.mk hM
    have HMW := Aside0.mk hMW
    have hbl2 : bs.length ≤ 1024 := by omega
    rw [hz1] at hD
    have HDZ := Aside0.mk hD
    clear hseq h1 h2 h3 hRv hC5 k0 k1 k2 hD hM hMW
    gi_wp2
    refine Ystart_ (m := 26) (S := fun w' => w'.cell? ⟨N + 3, 0, none⟩ = some (.slice A5 bs.length c5) ∧ w'.cell? ⟨N + 1, 0, none⟩ = some (.slice A U c) ∧ w'.cell? ⟨N, 0, none⟩ = some (.pointer (some ⟨p, 0, none⟩))) (ds := [25]) #[false, false, false, false, false, false, false, false, false, false, false, false, false, false, false, false, false, false, false, false, false, false, false, false, false, false] (by kernel_rfl) rfl rfl (fun _ => trivial) (by kernel_rfl) ⟨c3, c1, c0⟩ (fun hHeld => ?_)
    refine Ytake_ (i := 0) (N := some 28) (v := ?_) (a' := ?_) #[true, false, false, false, false, false, false, false, false, false, false, false, false, false, false, false, false, false, false, false, false, false, false, false, false, false] rfl rfl (by kernel_rfl) (fun _ _ _ h => h) (Or.inl ⟨by rfl, ?_⟩) hHeld ?_ ?_
    rotate_left
    · rintro w' ⟨s0, s1, s2⟩
      go_simp
      with_reducible rfl
    rotate_left
    · simp only [Act.put, List.setIfInBounds_toArray, List.set_cons_zero, List.set_cons_succ, i64_w, i32_w]
      rfl
    refine Ytake_ (i := 1) (N := some 29) (v := ?_) (a' := ?_) #[true, true, false, false, false, false, false, false, false, false, false, false, false, false, false, false, false, false, false, false, false, false, false, false, false, false] rfl rfl (by kernel_rfl) (fun _ _ _ h => h) (Or.inl ⟨by rfl, ?_⟩) hHeld ?_ ?_
    rotate_left
    · rintro w' ⟨s0, s1, s2⟩
      go_simp
      with_reducible rfl
    rotate_left
    · simp only [Act.put, List.setIfInBounds_toArray, List.set_cons_zero, List.set_cons_succ, i64_w, i32_w]
      rfl
    refine Yone_ (i := 2) (N := some 30) #[true, true, true, false, false, false, false, false, false, false, false, false, false, false, false, false, false, false, false, false, false, false, false, false, false, false] rfl rfl (by kernel_rfl) (by decide) (fun K hK => ?_)
    refine Ygoes_ Try.func24 (by kernel_rfl) rfl #[.slice A U c] (by rfl) rfl rfl (by simp only [List.map_toArray, List.map_cons, List.map_nil]; rfl) (by first | exact .inl rfl | exact .inr ⟨_, rfl⟩) ?_
    with_reducible refine (rstarts_calls (Kd.C_below HR.out HT1.out) hc hmU HH.out.ok).mono ?_
    rintro e w2 ⟨A6, c6, rfl, hC6, hc6, hb2⟩
    refine ⟨_, rfl, ?_⟩
    have HC6 := Aside0.mk hC6
    have HB2x := Aside0.mk hb2
    have HT2 := Aside0.mk (bel_stepB HT1.out hb2)
    clear hC6 hb2
    refine hK.out _ _ ⟨(bel_cellB HB2x.out hHeld.1), (bel_cellB HB2x.out hHeld.2.1), (bel_cellB HB2x.out hHeld.2.2)⟩ (fun hHeld => ?_)
    clear hK K
    refine Ynorm_ (a' := ?_) ?_ ?_
    rotate_left
    · show Act.put _ (some 30) _ = _
      simp only [Act.put, List.setIfInBounds_toArray, List.set_cons_zero, List.set_cons_succ, i64_w, i32_w]
      rfl
    refine Yone_ (i := 3) (N := some 31) #[true, true, true, true, false, false, false, false, false, false, false, false, false, false, false, false, false, false, false, false, false, false, false, false, false, false] rfl rfl (by kernel_rfl) (by decide) (fun K hK => ?_)
    refine Ygoes_ Try.func36 (by kernel_rfl) rfl #[.slice A5 bs.length c5, .slice A6 bs.length c6] (by rfl) rfl rfl (by simp only [List.map_toArray, List.map_cons, List.map_nil]; rfl) (by first | exact .inl rfl | exact .inr ⟨_, rfl⟩) ?_
    with_reducible refine (rsame_calls (Kd.C_below HC5.out HB2x.out) hc5 HC6.out hc6 hbl2).mono ?_
    rintro e w3 ⟨rfl, hb3⟩
    refine ⟨_, rfl, ?_⟩
    have HB3x := Aside0.mk hb3
    have HT3 := Aside0.mk (bel_stepB HT2.out hb3)
    clear hb3
    refine hK.out _ _ ⟨(bel_cellB HB3x.out hHeld.1), (bel_cellB HB3x.out hHeld.2.1), (bel_cellB HB3x.out hHeld.2.2)⟩ (fun hHeld => ?_)
    clear hK K
    refine Ynorm_ (a' := ?_) ?_ ?_
    rotate_left
    · show Act.put _ (some 31) _ = _
      simp only [Act.put, List.setIfInBounds_toArray, List.set_cons_zero, List.set_cons_succ, i64_w, i32_w]
      rfl
    refine Ypure_ (i := 4) (N := some 32) (v := ?_) (a' := ?_) #[true, true, true, true, true, false, false, false, false, false, false, false, false, false, false, false, false, false, false, false, false, false, false, false, false, false] rfl rfl (by kernel_rfl) (fun _ _ _ h => h) (Or.inl ⟨by rfl, ?_⟩) ?_ ?_
    rotate_left
    · intro w'
      go_simp
      with_reducible rfl
    rotate_left
    · simp only [Act.put, List.setIfInBounds_toArray, List.set_cons_zero, List.set_cons_succ, i64_w, i32_w]
      rfl
    refine Ytake_ (i := 5) (N := some 33) (v := ?_) (a' := ?_) #[true, true, true, true, true, true, false, false, false, false, false, false, false, false, false, false, false, false, false, false, false, false, false, false, false, false] rfl rfl (by kernel_rfl) (fun _ _ _ h => h) (Or.inl ⟨by rfl, ?_⟩) hHeld ?_ ?_
    rotate_left
    · rintro w' ⟨s0, s1, s2⟩
      go_simp
      with_reducible rfl
    rotate_left
    · simp only [Act.put, List.setIfInBounds_toArray, List.set_cons_zero, List.set_cons_succ, i64_w, i32_w]
      rfl
    refine Ytake_ (i := 7) (N := some 35) (v := ?_) (a' := ?_) #[true, true, true, true, true, true, false, true, false, false, false, false, false, false, false, false, false, false, false, false, false, false, false, false, false, false] rfl rfl (by kernel_rfl) (fun _ _ _ h => h) (Or.inl ⟨by rfl, ?_⟩) hHeld ?_ ?_
    rotate_left
    · rintro w' ⟨s0, s1, s2⟩
      go_simp
      with_reducible rfl
    rotate_left
    · simp only [Act.put, List.setIfInBounds_toArray, List.set_cons_zero, List.set_cons_succ, i64_w, i32_w]
      rfl
    refine Ypure_ (i := 8) (N := some 36) (v := ?_) (a' := ?_) #[true, true, true, true, true, true, false, true, true, false, false, false, false, false, false, false, false, false, false, false, false, false, false, false, false, false] rfl rfl (by kernel_rfl) (fun _ _ _ h => h) (Or.inl ⟨by rfl, ?_⟩) ?_ ?_
    rotate_left
    · intro w'
      go_simp
      with_reducible rfl
    rotate_left
    · simp only [Act.put, List.setIfInBounds_toArray, List.set_cons_zero, List.set_cons_succ, i64_w, i32_w]
      rfl
    refine Yone_ (i := 6) (N := some 34) #[true, true, true, true, true, true, true, true, true, false, false, false, false, false, false, false, false, false, false, false, false, false, false, false, false, false] rfl rfl (by kernel_rfl) (by decide) (fun K hK => ?_)
    refine Ygoes_ Try.func37 (by kernel_rfl) rfl #[.pointer (some ⟨p, 0, none⟩)] (by rfl) rfl rfl (by simp only [List.map_toArray, List.map_cons, List.map_nil]; rfl) (by first | exact .inl rfl | exact .inr ⟨_, rfl⟩) ?_
    with_reducible refine (units_calls w3 p s U bs (HH.out.below HT3.out)).mono ?_
    rintro e w3b ⟨rfl, rfl⟩
    refine ⟨_, rfl, ?_⟩
    refine hK.out _ _ ⟨hHeld.1, hHeld.2.1, hHeld.2.2⟩ (fun hHeld => ?_)
    clear hK K
    refine Ynorm_ (a' := ?_) ?_ ?_
    rotate_left
    · show Act.put _ (some 34) _ = _
      simp only [Act.put, List.setIfInBounds_toArray, List.set_cons_zero, List.set_cons_succ, i64_w, i32_w]
      rfl
    refine Ypure_ (i := 9) (N := some 37) (v := ?_) (a' := ?_) #[true, true, true, true, true, true, true, true, true, true, false, false, false, false, false, false, false, false, false, false, false, false, false, false, false, false] rfl rfl (by kernel_rfl) (fun _ _ _ h => h) (Or.inl ⟨by rfl, ?_⟩) ?_ ?_
    rotate_left
    · intro w'
      go_simp
      with_reducible rfl
    rotate_left
    · simp only [Act.put, List.setIfInBounds_toArray, List.set_cons_zero, List.set_cons_succ, i64_w, i32_w]
      rfl
    refine Ypure_ (i := 10) (N := some 38) (v := ?_) (a' := ?_) #[true, true, true, true, true, true, true, true, true, true, true, false, false, false, false, false, false, false, false, false, false, false, false, false, false, false] rfl rfl (by kernel_rfl) (fun _ _ _ h => h) (Or.inl ⟨by rfl, ?_⟩) ?_ ?_
    rotate_left
    · intro w'
      go_simp
      with_reducible rfl
    rotate_left
    · simp only [Act.put, List.setIfInBounds_toArray, List.set_cons_zero, List.set_cons_succ, i64_w, i32_w]
      rfl
    refine Ypure_ (i := 11) (N := some 39) (v := ?_) (a' := ?_) #[true, true, true, true, true, true, true, true, true, true, true, true, false, false, false, false, false, false, false, false, false, false, false, false, false, false] rfl rfl (by kernel_rfl) (fun _ _ _ h => h) (Or.inl ⟨by rfl, ?_⟩) ?_ ?_
    rotate_left
    · intro w'
      go_simp
      with_reducible rfl
    rotate_left
    · simp only [Act.put, List.setIfInBounds_toArray, List.set_cons_zero, List.set_cons_succ, i64_w, i32_w]
      rfl
    refine Ytake_ (i := 12) (N := some 40) (v := ?_) (a' := ?_) #[true, true, true, true, true, true, true, true, true, true, true, true, true, false, false, false, false, false, false, false, false, false, false, false, false, false] rfl rfl (by kernel_rfl) (fun _ _ _ h => h) (Or.inl ⟨by rfl, ?_⟩) hHeld ?_ ?_
    rotate_left
    · rintro w' ⟨s0, s1, s2⟩
      go_simp
      with_reducible rfl
    rotate_left
    · simp only [Act.put, List.setIfInBounds_toArray, List.set_cons_zero, List.set_cons_succ, i64_w, i32_w]
      rfl
    refine Ytake_ (i := 14) (N := some 42) (v := ?_) (a' := ?_) #[true, true, true, true, true, true, true, true, true, true, true, true, true, false, true, false, false, false, false, false, false, false, false, false, false, false] rfl rfl (by kernel_rfl) (fun _ _ _ h => h) (Or.inl ⟨by rfl, ?_⟩) hHeld ?_ ?_
    rotate_left
    · rintro w' ⟨s0, s1, s2⟩
      go_simp
      with_reducible rfl
    rotate_left
    · simp only [Act.put, List.setIfInBounds_toArray, List.set_cons_zero, List.set_cons_succ, i64_w, i32_w]
      rfl
    refine Yone_ (i := 13) (N := some 41) #[true, true, true, true, true, true, true, true, true, true, true, true, true, true, true, false, false, false, false, false, false, false, false, false, false, false] rfl rfl (by kernel_rfl) (by decide) (fun K hK => ?_)
    refine Ygoes_ Try.func14 (by kernel_rfl) rfl #[.pointer (some ⟨p, 0, none⟩)] (by rfl) rfl rfl (by simp only [List.map_toArray, List.map_cons, List.map_nil]; rfl) (by first | exact .inl rfl | exact .inr ⟨_, rfl⟩) ?_
    with_reducible refine (used_calls w3 p s U bs (HH.out.below HT3.out)).mono ?_
    rintro e w4 ⟨rfl, hb4⟩
    refine ⟨_, rfl, ?_⟩
    have HB4x := Aside0.mk hb4
    have HT4 := Aside0.mk (bel_stepB HT3.out hb4)
    clear hb4
    refine hK.out _ _ ⟨(bel_cellB HB4x.out hHeld.1), (bel_cellB HB4x.out hHeld.2.1), (bel_cellB HB4x.out hHeld.2.2)⟩ (fun hHeld => ?_)
    clear hK K
    refine Ynorm_ (a' := ?_) ?_ ?_
    rotate_left
    · show Act.put _ (some 41) _ = _
      simp only [Act.put, List.setIfInBounds_toArray, List.set_cons_zero, List.set_cons_succ, i64_w, i32_w]
      rfl
    refine Yone_ (i := 15) (N := some 43) #[true, true, true, true, true, true, true, true, true, true, true, true, true, true, true, true, false, false, false, false, false, false, false, false, false, false] rfl rfl (by kernel_rfl) (by decide) (fun K hK => ?_)
    refine Ygoes_ Try.func38 (by kernel_rfl) rfl #[.slice A U c] (by rfl) rfl rfl (by simp only [List.map_toArray, List.map_cons, List.map_nil]; rfl) (by first | exact .inl rfl | exact .inr ⟨_, rfl⟩) ?_
    with_reducible refine (rused_calls (Kd.C_below HR.out HT4.out) hc hmU HH.out.ok).mono ?_
    rintro e w5 ⟨rfl, hb5⟩
    refine ⟨_, rfl, ?_⟩
    have HB5x := Aside0.mk hb5
    have HT5 := Aside0.mk (bel_stepB HT4.out hb5)
    clear hb5
    refine hK.out _ _ ⟨(bel_cellB HB5x.out hHeld.1), (bel_cellB HB5x.out hHeld.2.1), (bel_cellB HB5x.out hHeld.2.2)⟩ (fun hHeld => ?_)
    clear hK K
    refine Ynorm_ (a' := ?_) ?_ ?_
    rotate_left
    · show Act.put _ (some 43) _ = _
      simp only [Act.put, List.setIfInBounds_toArray, List.set_cons_zero, List.set_cons_succ, i64_w, i32_w]
      rfl
    refine Ypure_ (i := 16) (N := some 44) (v := ?_) (a' := ?_) #[true, true, true, true, true, true, true, true, true, true, true, true, true, true, true, true, true, false, false, false, false, false, false, false, false, false] rfl rfl (by kernel_rfl) (fun _ _ _ h => h) (Or.inl ⟨by rfl, ?_⟩) ?_ ?_
    rotate_left
    · intro w'
      go_simp
      with_reducible rfl
    rotate_left
    · simp only [Act.put, List.setIfInBounds_toArray, List.set_cons_zero, List.set_cons_succ, i64_w, i32_w]
      rfl
    refine Ypure_ (i := 17) (N := some 45) (v := ?_) (a' := ?_) #[true, true, true, true, true, true, true, true, true, true, true, true, true, true, true, true, true, true, false, false, false, false, false, false, false, false] rfl rfl (by kernel_rfl) (fun _ _ _ h => h) (Or.inl ⟨by rfl, ?_⟩) ?_ ?_
    rotate_left
    · intro w'
      go_simp
      with_reducible rfl
    rotate_left
    · simp only [Act.put, List.setIfInBounds_toArray, List.set_cons_zero, List.set_cons_succ, i64_w, i32_w]
      rfl
    refine Ypure_ (i := 18) (N := some 46) (v := ?_) (a' := ?_) #[true, true, true, true, true, true, true, true, true, true, true, true, true, true, true, true, true, true, true, false, false, false, false, false, false, false] rfl rfl (by kernel_rfl) (fun _ _ _ h => h) (Or.inl ⟨by rfl, ?_⟩) ?_ ?_
    rotate_left
    · intro w'
      go_simp
      with_reducible rfl
    rotate_left
    · simp only [Act.put, List.setIfInBounds_toArray, List.set_cons_zero, List.set_cons_succ, i64_w, i32_w]
      rfl
    refine Ytake_ (i := 19) (N := some 47) (v := ?_) (a' := ?_) #[true, true, true, true, true, true, true, true, true, true, true, true, true, true, true, true, true, true, true, true, false, false, false, false, false, false] rfl rfl (by kernel_rfl) (fun _ _ _ h => h) (Or.inl ⟨by rfl, ?_⟩) hHeld ?_ ?_
    rotate_left
    · rintro w' ⟨s0, s1, s2⟩
      go_simp
      with_reducible rfl
    rotate_left
    · simp only [Act.put, List.setIfInBounds_toArray, List.set_cons_zero, List.set_cons_succ, i64_w, i32_w]
      rfl
    refine Ytake_ (i := 21) (N := some 49) (v := ?_) (a' := ?_) #[true, true, true, true, true, true, true, true, true, true, true, true, true, true, true, true, true, true, true, true, false, true, false, false, false, false] rfl rfl (by kernel_rfl) (fun _ _ _ h => h) (Or.inl ⟨by rfl, ?_⟩) hHeld ?_ ?_
    rotate_left
    · rintro w' ⟨s0, s1, s2⟩
      go_simp
      with_reducible rfl
    rotate_left
    · simp only [Act.put, List.setIfInBounds_toArray, List.set_cons_zero, List.set_cons_succ, i64_w, i32_w]
      rfl
    refine Yone_ (i := 20) (N := some 48) #[true, true, true, true, true, true, true, true, true, true, true, true, true, true, true, true, true, true, true, true, true, true, false, false, false, false] rfl rfl (by kernel_rfl) (by decide) (fun K hK => ?_)
    refine Ygoes_ Try.func15 (by kernel_rfl) rfl #[.pointer (some ⟨p, 0, none⟩)] (by rfl) rfl rfl (by simp only [List.map_toArray, List.map_cons, List.map_nil]; rfl) (by first | exact .inl rfl | exact .inr ⟨_, rfl⟩) ?_
    with_reducible refine (largest_calls w5 p s U bs (HH.out.below HT5.out)).mono ?_
    rintro e w6 ⟨rfl, hb6⟩
    refine ⟨_, rfl, ?_⟩
    have HB6x := Aside0.mk hb6
    have HT6 := Aside0.mk (bel_stepB HT5.out hb6)
    clear hb6
    refine hK.out _ _ ⟨(bel_cellB HB6x.out hHeld.1), (bel_cellB HB6x.out hHeld.2.1), (bel_cellB HB6x.out hHeld.2.2)⟩ (fun hHeld => ?_)
    clear hK K
    refine Ynorm_ (a' := ?_) ?_ ?_
    rotate_left
    · show Act.put _ (some 48) _ = _
      simp only [Act.put, List.setIfInBounds_toArray, List.set_cons_zero, List.set_cons_succ, i64_w, i32_w]
      rfl
    refine Yone_ (i := 22) (N := some 50) #[true, true, true, true, true, true, true, true, true, true, true, true, true, true, true, true, true, true, true, true, true, true, true, false, false, false] rfl rfl (by kernel_rfl) (by decide) (fun K hK => ?_)
    refine Ygoes_ Try.func39 (by kernel_rfl) rfl #[.slice A U c] (by rfl) rfl rfl (by simp only [List.map_toArray, List.map_cons, List.map_nil]; rfl) (by first | exact .inl rfl | exact .inr ⟨_, rfl⟩) ?_
    with_reducible refine (rlarge_calls (Kd.C_below HR.out HT6.out) hc hmU HH.out.ok).mono ?_
    rintro e w7 ⟨rfl, hb7⟩
    refine ⟨_, rfl, ?_⟩
    have HB7x := Aside0.mk hb7
    have HT7 := Aside0.mk (bel_stepB HT6.out hb7)
    have HW7 := Aside0.mk (show Below W'.heap.size W' w7 from (Below.refl _ _).drew |> fun h => bel_stepB (bel_stepB (bel_stepB (bel_stepB (bel_stepB (bel_stepB h HB2x.out) HB3x.out) HB4x.out) HB5x.out) HB6x.out) hb7)
    have q2 := (HW7.out.block _ (blk_lt HK2.out)).trans HK2.out
    have d2 := blk_cell q2 (i := 0) rfl
    have f2 := blk_free q2 0
    have Q2 := Aside0.mk q2
    clear hb7 q2
    refine hK.out _ _ ⟨(bel_cellB HB7x.out hHeld.1), (bel_cellB HB7x.out hHeld.2.1), (bel_cellB HB7x.out hHeld.2.2)⟩ (fun hHeld => ?_)
    clear hK K
    refine Ynorm_ (a' := ?_) ?_ ?_
    rotate_left
    · show Act.put _ (some 50) _ = _
      simp only [Act.put, List.setIfInBounds_toArray, List.set_cons_zero, List.set_cons_succ, i64_w, i32_w]
      rfl
    refine Ypure_ (i := 23) (N := some 51) (v := ?_) (a' := ?_) #[true, true, true, true, true, true, true, true, true, true, true, true, true, true, true, true, true, true, true, true, true, true, true, true, false, false] rfl rfl (by kernel_rfl) (fun _ _ _ h => h) (Or.inl ⟨by rfl, ?_⟩) ?_ ?_
    rotate_left
    · intro w'
      go_simp
      with_reducible rfl
    rotate_left
    · simp only [Act.put, List.setIfInBounds_toArray, List.set_cons_zero, List.set_cons_succ, i64_w, i32_w]
      rfl
    refine Ypure_ (i := 24) (N := some 52) (v := ?_) (a' := ?_) #[true, true, true, true, true, true, true, true, true, true, true, true, true, true, true, true, true, true, true, true, true, true, true, true, true, false] rfl rfl (by kernel_rfl) (fun _ _ _ h => h) (Or.inl ⟨by rfl, ?_⟩) ?_ ?_
    rotate_left
    · intro w'
      go_simp
      with_reducible rfl
    rotate_left
    · simp only [Act.put, List.setIfInBounds_toArray, List.set_cons_zero, List.set_cons_succ, i64_w, i32_w]
      rfl
    refine Ylast_ (i := 25) (N := none) #[true, true, true, true, true, true, true, true, true, true, true, true, true, true, true, true, true, true, true, true, true, true, true, true, true, true] rfl rfl (by kernel_rfl) (by decide) (fun K hK => ?_)
    refine Yskip_ (w1 := ?_) (by rfl) rfl ?_ ?_
    rotate_left
    · go_simp
      rfl
    refine hK.out _ _ ?_
    clear hK K
    refine Ydone_ (by kernel_rfl) ?_
    clear hHeld d2 f2
    obtain ⟨V, hV⟩ : ∃ V, V = w7.setCell ⟨N + 1 + 1, 0, none⟩ (.bool true) := ⟨_, rfl⟩
    rw [← hV]
    have hz := HZ.out
    have hV2 : V = w7.setCell ⟨N + 2, 0, none⟩ (.bool true) := hV
    have HVB := Aside0.mk (show V.heap[N + 2]? = some (.cells #[.bool true] 4 (0, 0)) by rw [hV2]; have := blk_set Q2.out 0 (.bool true); simpa using this)
    have HDV := Aside0.mk (show V.heap[w1.heap.size]? = some (.deferred (some [])) by
      rw [hV2]
      exact blk_far ((HW7.out.block _ (blk_lt HD.out)).trans HD.out) _ (by simp only; omega))
    have HFV := Aside0.mk (show Fr (fun b => b = N + 2) w7 V by rw [hV2]; exact (Fr.refl (fun b => b = N + 2) w7).setCell (.inl rfl) _)
    clear hV hV2
    gi_wp2
    refine ⟨by simp, .inl ⟨_, _, rfl, run_takeDeferred HDV.out, ?_⟩⟩
    refine ⟨_, results_c1 rfl _ _ (N + 2) _ rfl ((World.putObj_heap_other (by omega)).trans HVB.out) Try.underlying4 rfl, rfl, ?_⟩
    have hn := HN.out
    have h7 := HT7.out
    have hb : Below w.heap.size w V := h7.trans (HFV.out.below _ h7.size (fun b hb => by omega))
    exact hb.trans (itB.put (by omega) HDV.out rfl)
  case stop => intro c M k W' _ _ _ h; exact h.elim
end Go.Proofs.Ytgendnoafemgpaa.Hand
namespace Go.Proofs.Ytgendnoafemgpaa.Hand
open Go.RowKit Go.Proofs.YtgendnoafemgpaaW.PrintWords

section
variable {α : Type} {encA : α → List Value} {sz : Nat} {hl : ∀ x, (encA x).length = sz} {h1 : ∀ x, ∀ u ∈ encA x, u.oneCell' = true}
theorem rows_of {w : World} {a : Addr} {k : Nat} {Wf : α → Prop} (hx : ∀ i, i < k → ∃ x : α, Wf x ∧ ∀ j, j < sz → w.cell? (a.add (i * sz + j)) = (encA x)[j]?) :
    ∃ L : List α, L.length = k ∧ ∀ i x, L[i]? = some x → Wf x ∧ ∀ j, j < sz → w.cell? (a.add (i * sz + j)) = (encA x)[j]? := by
  induction k with
  | zero => exact ⟨[], rfl, fun i x h => by simp at h⟩
  | succ k ih =>
    obtain ⟨L, hL, h⟩ := ih (fun i hi => hx i (by omega))
    obtain ⟨x, hw, hc⟩ := hx k (by omega)
    refine ⟨L ++ [x], by simp [hL], fun i y hy => ?_⟩
    by_cases hi : i < L.length
    · rw [List.getElem?_append_left hi] at hy
      exact h i y hy
    · have hik : i = L.length := by
        have := (List.getElem?_eq_some_iff.1 hy).1
        simp at this
        omega
      subst hik
      rw [List.getElem?_append_right (Nat.le_refl _)] at hy
      simp at hy
      subst hy
      rw [hL]
      exact ⟨hw, hc⟩
theorem add_add (a : Addr) (i j : Nat) : (a.add i).add j = a.add (i + j) := by
  unfold Addr.add
  split <;> split <;> simp_all <;> (try omega)
theorem open_flat {H : Type} {enc : TypeId × Value → H} {P : Program} {w : World} {spare : Nat → Bool} {held : Bool} {t e : TypeId} {A : Option Addr} {len cap : Nat} {d : DataW H} {ps : List MemPlace} {Wf : α → Prop}
    (ht : P.underlying t = some (.slice e)) (hsz : P.cellsOf e = sz) (hel : ∀ n cs y, DataW.trod enc P w 0 spare held n e cs = some y → ∃ x : α, cs = encA x ∧ Wf x)
    (h : DataW.Trod enc P w 0 spare held t (.slice A len cap) d ps) : ∃ L : List α, len = L.length ∧ (flat encA sz hl h1).C w A L.length L ∧ ∀ x ∈ L, Wf x := by
  obtain ⟨fuel, hf⟩ := h
  rcases Go.Deep.open_slice ht hf with ⟨hcs, _⟩ | ⟨a, l, c, m, n, D, Pl, hcs, _, hlc, hm, hmm, _, hx⟩
  · simp [Value.cells] at hcs
    obtain ⟨rfl, rfl, rfl⟩ := hcs
    exact ⟨[], rfl, ⟨rfl, by simp, fun h => absurd h (by simp)⟩, fun x hx => absurd hx (by simp)⟩
  · simp [Value.cells] at hcs
    obtain ⟨rfl, rfl, rfl⟩ := hcs
    have hlm : len ≤ m := by rw [hmm]; split <;> omega
    obtain ⟨L, hL, hLx⟩ := rows_of (w := w) (a := a) (k := len) (sz := sz) (encA := encA) (Wf := Wf) (fun i hi => by
      obtain ⟨cs', h2, h3⟩ := hx i (by omega)
      obtain ⟨x, rfl, hw⟩ := hel _ _ _ h3
      rw [hsz] at h2
      obtain ⟨_, _, hc⟩ := World.cells?_some h2
      exact ⟨x, hw, fun j hj => by rw [← add_add]; exact hc j hj⟩)
    refine ⟨L, hL.symm, ⟨rfl, by rw [hL]; simp only [maxLen] at hm; omega, fun _ => ⟨a, rfl, fun i x hix => ?_⟩⟩, fun x hx => ?_⟩
    · obtain ⟨_, hc⟩ := hLx i x hix
      refine ⟨encA x, hl x, rfl, fun j u hu => ?_⟩
      rw [← hu]
      exact hc j (by have := (List.getElem?_eq_some_iff.1 hu).1; rwa [hl] at this)
    · obtain ⟨i, hi⟩ := List.getElem?_of_mem hx
      exact (hLx i x hi).1
end
end Go.Proofs.Ytgendnoafemgpaa.Hand
namespace Go.Proofs.Ytgendnoafemgpaa.Hand
open Go.RowKit Go.Maps Go.Sort Go.Shelf Go.Proofs.YtgendnoafemgpaaW.PrintWords Go.Proofs.YtgendnoafemgpaaW.PrintLast Go.Proofs.Ytgendnoafemgpaa.PHandRB
set_option linter.unusedVariables false
set_option linter.unusedSimpArgs false
abbrev OpB := Int × Int × Int
def encB (o : OpB) : List Value := [.int .i64 o.1, .int .i64 o.2.1, .int .i64 o.2.2]
theorem encB_len (o : OpB) : (encB o).length = 3 := rfl
theorem encB_one (o : OpB) : ∀ u ∈ encB o, u.oneCell' = true := by
  intro u hu
  simp only [encB, List.mem_cons, List.not_mem_nil, or_false] at hu
  rcases hu with rfl | rfl | rfl <;> rfl
def OpBK : Kd OpB := flat encB 3 encB_len encB_one
def WfB (o : OpB) : Prop := I64 o.2.1 ∧ I64 o.2.2
theorem list3b {α : Type} {l : List α} (h : l.length = 3) : ∃ a b c, l = [a, b, c] := by
  match l, h with
  | [a, b, c], _ => exact ⟨a, b, c, rfl⟩
theorem opB_el {H : Type} {enc : TypeId × Value → H} {w : World} {spare : Nat → Bool} {held : Bool} : ∀ n cs y, DataW.trod enc Try.prog w 0 spare held n 29 cs = some y → ∃ x : OpB, cs = encB x ∧ WfB x := by
  intro n cs y h
  obtain ⟨y0, y1, y2, m, _, hlen, h0, h1, h2⟩ := Go.Deep.trod_struct3 Try.underlying29 h
  obtain ⟨a, b, c, rfl⟩ := list3b (hlen.trans (show Try.prog.cellsOf 29 = 3 by kernel_rfl))
  rw [show Try.prog.cellsOf 3 = 1 by kernel_rfl] at h0 h1 h2
  obtain ⟨q, e0, _, w0⟩ := DataW.trod_int Try.underlying3 h0
  obtain ⟨s, e1, _, w1⟩ := DataW.trod_int Try.underlying3 h1
  obtain ⟨g, e2, _, w2⟩ := DataW.trod_int Try.underlying3 h2
  simp at e0 e1 e2
  subst e0 e1 e2
  exact ⟨(q, s, g), rfl, wf_i64 w1, wf_i64 w2⟩
theorem open_opsB {H : Type} {enc : TypeId × Value → H} {w : World} {spare : Nat → Bool} {held : Bool} {A : Option Addr} {len cap : Nat} {d : DataW H} {ps : List MemPlace}
    (h : DataW.Trod enc Try.prog w 0 spare held 22 (.slice A len cap) d ps) : ∃ os : List OpB, len = os.length ∧ OpBK.C w A os.length os ∧ ∀ o ∈ os, WfB o :=
  open_flat Try.underlying22 (by kernel_rfl) opB_el h
def mkB (U : Nat) (bs : List Pc) (os : List OpB) : List Pc := os.foldl (fun bs o => (doR U bs o.1 o.2.1 o.2.2).1) bs
theorem mkB_chain {U : Nat} : ∀ (os : List OpB) (bs : List Pc), Chain 0 bs U → Chain 0 (mkB U bs os) U
  | [], bs, h => h
  | o :: os, bs, h => mkB_chain os _ (doR_chain h _ _ _)
def fewB (U : Int) (n : Nat) : Bool := decide (n ≤ 60) && (decide (U ≤ 60) || decide (1024 < U))
theorem few_calls (w : World) (U : Int) (A : Option Addr) (n c : Nat) (hn : n ≤ 9223372036854775807) : Calls Try.prog 16 #[.int .i64 U, .slice A n c] w fun e w' => e = .returned (.bool (fewB U n)) ∧ w = w' := by
  go_enter Try.func16, Try.ntmps16
  by_cases h1 : n ≤ 60
  · by_cases h2 : U ≤ 60
    · have hf : fewB U n = true := by simp [fewB, h1, h2]
      rw [hf]
      go_wp2
      go_ret
      exact ⟨rfl, rfl⟩
    · have hf : fewB U n = decide (1024 < U) := by simp [fewB, h1, h2]
      rw [hf]
      go_wp2
      go_ret
      exact ⟨rfl, rfl⟩
  · have hf : fewB U n = false := by simp [fewB, h1]
    rw [hf]
    go_wp2
    go_ret
    exact ⟨rfl, rfl⟩
/-- The document's units lie where no call on the blocks writes. -/
def Ap (p s : Nat) (b : Nat) : Prop := b ≠ p ∧ b ≠ s
theorem Ri_keep {w w1 : World} {e base : Nat} {ok : Nat → Prop} {v : Value} {xs : List Int} (h : Kd.R (Kd.int .i64) e w base ok v xs) {s : Nat} (hm : ∃ es clock, w.heap[s]? = some (.map es clock)) (hf : Fr (fun b => b = s) w w1) : Kd.R (Kd.int .i64) e w1 base ok v xs := by
  obtain ⟨_, inner, ho, _⟩ := id h
  refine R_keep h (fun b hb => ?_)
  obtain ⟨cs, hc⟩ := own_typed ho b hb
  refine hf.block b (Array.getElem?_eq_some_iff.1 hc).1 (fun e => ?_)
  obtain ⟨es, clock, hs⟩ := hm
  rw [e, hs] at hc
  cases hc
theorem rdo_calls (w0 w : World) (hB : Below w0.heap.size w0 w) (p s U : Nat) (bs : List Pc) (h : HasB w p s U bs) (A : Option Addr) (c : Nat) (hr : Kd.R (Kd.int .i64) 3 w w0.heap.size (Ap p s) (.slice A U c) (occ U bs)) (kind a n : Int) (ha : I64 a) (hn : I64 n) :
    Calls Try.prog 34 #[.slice A U c, .agg #[.int .i64 kind, .int .i64 a, .int .i64 n]] w fun e w' => ∃ A2 c2, e = .returned (.tuple #[.slice A2 U c2, .int .i64 (doR U bs kind a n).2.1, .int .i64 (doR U bs kind a n).2.2]) ∧
      Kd.R (Kd.int .i64) 3 w' w0.heap.size (Ap p s) (.slice A2 U c2) (occ U (doR U bs kind a n).1) ∧ U ≤ c2 ∧ HasB w' p s U bs ∧ Below w0.heap.size w0 w' ∧ Fr (fun b => (Value.slice A U c).ownBlock = some b) w w' := by
  have hr2 : Kd.R (Kd.int .i64) 3 w w0.heap.size (fun b => (Value.slice A U c).ownBlock = some b) (.slice A U c) (occ U bs) := Kd.R_of_own (by
    obtain ⟨_, inner, ho, _⟩ := id hr
    exact Kd.own_of_R hr) (fun b hb => hb)
  refine (ecdysisref10_Do.calls 6000 (fun b => (Value.slice A U c).ownBlock = some b) (.slice A U c) (occ U bs) kind a n _ _ _ w0 w hB hr2 (do_f h.max h.ok kind a n ha hn 6000 (Nat.le_refl _))).mono ?_
  rintro e w' ⟨v, rfl, hrv, hb, hk⟩
  have hfr : Fr (fun b => (Value.slice A U c).ownBlock = some b) w w' := ⟨hb.os.trans hB.os.symm, hb.tape.trans hB.tape.symm, hb.output.trans hB.output.symm, hk.1, fun b hbl hn => hk.2 b hbl hn⟩
  have hap : ∀ b, (Value.slice A U c).ownBlock = some b → Ap p s b := hr.1
  obtain ⟨A2, c2, rfl, hc2, _⟩ := Kd.R_reads hrv
  rw [occ_len] at hrv hc2 ⊢
  refine ⟨A2, c2, rfl, Kd.R_mono hrv (fun b hb => ?_), hc2, h.fr hfr (fun e => (hap _ e).1 rfl) (fun e => (hap _ e).2 rfl), hb, hfr⟩
  rcases hb with hb | hb
  · exact hap b hb
  · have := h.p_lt
    have := h.s_lt
    exact ⟨by omega, by omega⟩
/-- What made leaves. -/
def MadeB (w : World) (U : Nat) (bs : List Pc) (e : Ending) (w' : World) : Prop :=
  ∃ (p s : Nat) (A : Option Addr) (c : Nat), e = .returned (.tuple #[.pointer (some ⟨p, 0, none⟩), .slice A U c, .bool true]) ∧ HasB w' p s U bs ∧ Kd.R (Kd.int .i64) 3 w' w.heap.size (Ap p s) (.slice A U c) (occ U bs) ∧ U ≤ c ∧ w.heap.size ≤ p ∧ w.heap.size ≤ s ∧ Below w.heap.size w w'
theorem occ_nil (U : Nat) : occ U [] = List.replicate U 0 := by
  apply List.ext_getElem
  · simp [occ]
  · intro i h1 h2
    simp [occ, own]
theorem rnew_calls (w : World) (U : Nat) (hU : U ≤ 1024) : Calls Try.prog 33 #[.int .i64 (U : Int)] w fun e w' => ∃ A c, e = .returned (.tuple #[.slice A U c, .bool true]) ∧ Kd.R (Kd.int .i64) 3 w' w.heap.size (fun _ => True) (.slice A U c) (occ U []) ∧ U ≤ c ∧ Below w.heap.size w w' := by
  have hf : ecdysisref10_New.f (U : Int) = some (occ U [], true) := by
    rw [ecdysisref10_New.f, if_neg (by omega), if_neg (by omega), if_pos (by omega), if_pos (by omega), Int.toNat_natCast, occ_nil]
  refine (ecdysisref10_New.calls U _ _ w hf).mono ?_
  rintro e w' ⟨v, rfl, hr, hb⟩
  obtain ⟨A, c, rfl, hc, _⟩ := Kd.R_reads hr
  rw [occ_len] at hr hc ⊢
  exact ⟨A, c, rfl, hr, hc, hb⟩
theorem R_C {w : World} {e base : Nat} {ok : Nat → Prop} {A : Option Addr} {U c : Nat} {bs : List Pc} (h : Kd.R (Kd.int .i64) e w base ok (.slice A U c) (occ U bs)) : Kd.C (Kd.int .i64) w A U (occ U bs) := by
  obtain ⟨A2, c2, e2, _, hC⟩ := Kd.R_reads h
  simp only [Value.slice.injEq] at e2
  obtain ⟨rfl, -, rfl⟩ := e2
  rw [occ_len] at hC
  exact hC
theorem R_step {w w1 : World} {e base : Nat} {ok : Nat → Prop} {v : Value} {xs : List Int} (h : Kd.R (Kd.int .i64) e w base ok v xs) (hb : Below w.heap.size w w1) : Kd.R (Kd.int .i64) e w1 base ok v xs := R_keep h (fun b hb' => hb.block b (R_base h hb').2)
set_option maxRecDepth 100000 in
set_option maxHeartbeats 8000000 in
theorem made_calls (w : World) (U : Nat) (hU : U ≤ 1024) (B : Option Addr) (d : Nat) (os : List OpB) (ho : OpBK.C w B os.length os) (hwo : ∀ o ∈ os, WfB o) (hol : os.length ≤ 65536) :
    Calls Try.prog 17 #[.int .i64 (U : Int), .slice B os.length d] w (MadeB w U (mkB U [] os)) := by
  have HO := Aside0.mk ho
  have HWO := Aside0.mk hwo
  clear ho hwo
  go_enter Try.func17, Try.ntmps17
  go_wp2_with (first | (go_at_call 10; (with_reducible refine (new_good w U hU).mono ?_); rintro e w1 ⟨p, s, rfl, hb1, hbw1, hp1, hs1⟩; have HH1 := Aside0.mk hb1; have HB1 := Aside0.mk hbw1; have HP := Aside0.mk hp1; have HS := Aside0.mk hs1; clear hb1 hbw1 hp1 hs1) | (go_at_call 33; (with_reducible refine (rnew_calls w1 U hU).mono ?_); rintro e w2 ⟨A, c, rfl, hr2, hc2, hb2⟩; have HH2 := Aside0.mk (HH1.out.below hb2); have HB2 := Aside0.mk (bel_stepB HB1.out hb2); have HR2 := Aside0.mk hr2; have HCC := Aside0.mk hc2; clear hr2 hb2 hc2))
  have hp2 := HH2.out.p_lt
  have HRA := Aside0.mk (show Kd.R (Kd.int .i64) 3 w2 w.heap.size (Ap p s) (.slice A U c) (occ U []) from by
    refine Kd.R_of_own ?_ (fun b hb => ?_)
    · have h1 := Kd.own_of_R HR2.out
      exact ownsRow_base_a h1 HB1.out.size
    · have h2 := R_base HR2.out hb
      have h3 := HH1.out.p_lt
      have h4 := HH1.out.s_lt
      exact ⟨by omega, by omega⟩)
  clear hp2
  go_loopw [9, 40] (fun lv i wr => ∃ (k : Nat) (bs : List Pc) (Ak : Option Addr) (ck : Nat), k ≤ os.length ∧ i = .int .i64 k ∧ lv = .slice Ak U ck ∧ Aside0 (bs = mkB U [] (os.take k)) ∧ Aside0 (HasB wr p s U bs) ∧ Aside0 (Kd.R (Kd.int .i64) 3 wr w.heap.size (Ap p s) (.slice Ak U ck) (occ U bs)) ∧ Aside0 (U ≤ ck) ∧ Aside0 (Below w.heap.size w wr)) (fun _ i _ => (os.length - intOf i).toNat)
  case atStart => exact ⟨0, [], A, c, Nat.zero_le _, rfl, rfl, ⟨by rw [List.take_zero]; rfl⟩, HH2, HRA, HCC, HB2⟩
  case round =>
    obtain ⟨k, bs, Ak, ck, hk, rfl, rfl, HE, HH, HRk, HCk, HB⟩ := hrel
    clear HH2 HRA HCC HB2 HR2 HH1
    by_cases hlt : k < os.length
    · obtain ⟨o, hx⟩ : ∃ o, os[k]? = some o := ⟨_, List.getElem?_eq_getElem hlt⟩
      obtain ⟨bb, ob, hB, hcb⟩ := C_at (Kd.C_below HO.out HB.out) (by decide) hx
      subst hB
      have HX := Aside0.mk (show os.take (k + 1) = os.take k ++ [o] by rw [List.take_add_one, hx]; rfl)
      obtain ⟨hwa, hwn⟩ := HWO.out o (List.mem_of_getElem? hx)
      have HWA := Aside0.mk hwa
      have HWN := Aside0.mk hwn
      obtain ⟨q, a, n⟩ := o
      have b0 : wr.cell? ⟨bb, ob + k * 3, none⟩ = some (.int .i64 q) := hcb 0 (by decide)
      have b1 : wr.cell? ⟨bb, ob + k * 3 + 1, none⟩ = some (.int .i64 a) := hcb 1 (by decide)
      have b2 : wr.cell? ⟨bb, ob + k * 3 + 2, none⟩ = some (.int .i64 n) := hcb 2 (by decide)
      clear hcb hx hwa hwn
      obtain ⟨⟨bn, vv, ee⟩, hr⟩ : ∃ r, r = doR U bs q a n := ⟨_, rfl⟩
      have HDO := Aside0.mk hr
      clear hr
      go_wp2_with (first | (go_at_call 34; (with_reducible refine (rdo_calls w _ (below_alloc HB.out _) p s U bs (HH.out.below (below_alloc (Below.refl _ _) _)) Ak ck (R_step HRk.out (below_alloc (Below.refl _ _) _)) q a n HWA.out HWN.out).mono ?_); rw [← HDO.out]; rintro e w4 ⟨A4, c4, rfl, hr4, hc4, hh4, hb4, hf4⟩; have HB4 := Aside0.mk hb4; have HH4 := Aside0.mk hh4; have HR4 := Aside0.mk hr4; have HC4 := Aside0.mk hc4; have hob := hf4.get (heap_alloc_new wr _) (fun e => Nat.lt_irrefl _ (R_base HRk.out e).2); have o0 := blk_cell hob (i := 0) rfl; have o1 := blk_cell hob (i := 1) rfl; have o2 := blk_cell hob (i := 2) rfl; clear hr4 hb4 hob hc4 hh4 hf4) | (go_at_call 12; (with_reducible refine (does_calls _ p s U bs HH4.out q a n HWA.out HWN.out).mono ?_); rw [← HDO.out]; rintro e w5 ⟨rfl, hh5, hf5⟩; have HH5 := Aside0.mk hh5; have HR5 := Aside0.mk (Ri_keep HR4.out HH4.out.map.blk hf5); have HB5 := Aside0.mk (HB4.out.trans (hf5.below _ HB4.out.size (fun b (hb : b = s) => by rw [hb]; exact HS.out))); clear hh5 hf5) | (go_at_call 21; (with_reducible refine (stands_calls _ p s U bn HH5.out A4 c4 (R_C HR5.out) HC4.out).mono ?_); rintro e w6 ⟨rfl, hb6⟩; have HB6 := Aside0.mk (bel_stepB HB5.out hb6); have HH6 := Aside0.mk (HH5.out.below hb6); have HR6 := Aside0.mk (R_step HR5.out hb6); clear hb6))
      trace_state
      refine ⟨⟨k + 1, bn, A4, c4, by omega, by go_num, rfl, ⟨?_⟩, HH6, HR6, HC4, HB6⟩, by simp [intOf]; omega⟩
      rw [HX.out, mkB, List.foldl_append, show List.foldl _ [] (os.take k) = bs from HE.out.symm]
      exact congrArg (fun r => r.1) HDO.out
    · obtain rfl : k = os.length := by omega
      rw [List.take_length] at HE
      go_wp2
      go_ret3
      exact ⟨p, s, _, _, rfl, HE.out ▸ HH.out, HE.out ▸ HRk.out, HCk.out, HP.out, HS.out, HB.out⟩
end Go.Proofs.Ytgendnoafemgpaa.Hand
namespace Go.Proofs.Ytgendnoafemgpaa.Hand
open Go.RowKit Go.Proofs.YtgendnoafemgpaaW.PrintWords

theorem take_rdx {l : List Int} {k : Nat} (h : k < l.length) : l.take (k + 1) = l.take k ++ [rd l k] := by
  rw [List.take_add_one]
  congr 1
  rw [rd]
  simp [h]
theorem eq_calls (A B : Option Addr) (c d : Nat) (l m : List Int) (w : World) (hA : ReadsInt w .u8 A l.length l) (hB : ReadsInt w .u8 B m.length m) :
    Calls Try.prog 42 #[.slice A l.length c, .slice B m.length d] w fun e w' => e = .returned (.bool (decide (l = m))) ∧ Below w.heap.size w w' := by
  have HA := Aside0.mk hA
  have HB := Aside0.mk hB
  clear hA hB
  by_cases hlm : l.length = m.length
  · have hl : l.length ≤ 9223372036854775807 := HA.out.2.1
    go_enter Try.func42, Try.ntmps42
    go_wp2
    go_loopw [13] (fun i wr => ∃ k : Nat, k ≤ l.length ∧ i = .int .i64 k ∧ Aside0 (l.take k = m.take k) ∧ Aside0 (Below w.heap.size w wr)) (fun i _ => (l.length - intOf i).toNat)
    case atStart => exact ⟨0, Nat.zero_le _, rfl, ⟨rfl⟩, ⟨Below.refl _ _⟩⟩
    case round =>
      obtain ⟨k, hk, rfl, HT, HW⟩ := hrel
      by_cases hlt : k < l.length
      · obtain ⟨ad, rfl, hx⟩ := HA.out.2.2 (by omega)
        obtain ⟨bd, rfl, hy⟩ := HB.out.2.2 (by omega)
        have hx1 : wr.cell? (ad.add k) = some (.int .u8 (rd l k)) := (HW.out.cell (World.block_lt_of_cell? w _ (hx k hlt))).trans (hx k hlt)
        have hy1 : wr.cell? (bd.add k) = some (.int .u8 (rd m k)) := (HW.out.cell (World.block_lt_of_cell? w _ (hy k (by omega)))).trans (hy k (by omega))
        clear hx hy
        have HL := Aside0.mk (take_rdx (l := l) (k := k) hlt)
        have HM := Aside0.mk (take_rdx (l := m) (k := k) (by omega))
        by_cases he : rd l k = rd m k
        · go_wp2
          go_quiet (fail)
          go_wp2
          go_roundw
          case rel => exact ⟨k + 1, by omega, by go_num, ⟨by rw [HL.out, HM.out, HT.out, he]⟩, ⟨pw_below_drewN HW.out _⟩⟩
          case measure => simp [intOf]; omega
        · go_wp2
          go_quiet (fail)
          go_wp2
          go_ret
          refine ⟨congrArg (fun b => Ending.returned (.bool b)) ?_, pw_below_drewN HW.out _⟩
          rw [decide_eq_false (fun h => he (by rw [h]))]
      · obtain rfl : k = l.length := by omega
        go_wp2
        go_ret
        refine ⟨congrArg (fun b => Ending.returned (.bool b)) ?_, HW.out⟩
        have h1 := HT.out
        rw [List.take_of_length_le (Nat.le_refl _), List.take_of_length_le (by omega)] at h1
        rw [decide_eq_true h1]
  · go_enter Try.func42, Try.ntmps42
    go_wp2
    go_ret
    refine ⟨congrArg (fun b => Ending.returned (.bool b)) ?_, Below.refl _ _⟩
    rw [decide_eq_false (fun h => hlm (by rw [h]))]
end Go.Proofs.Ytgendnoafemgpaa.Hand
namespace Go.Proofs.Ytgendnoafemgpaa.Hand
open Go.RowKit Go.Maps Go.Sort Go.Shelf Go.Proofs.YtgendnoafemgpaaW.PrintWords Go.Proofs.YtgendnoafemgpaaW.PrintLast Go.Proofs.Ytgendnoafemgpaa.PHandRB
set_option linter.unusedVariables false
set_option linter.unusedSimpArgs false
/-- The claims that bytes tell, m of them from a on. -/
def dcl (U : Nat) (l : List Int) : Nat → Int → List Pc → Option (List Pc)
  | 0, _, bs => some bs
  | m + 1, a, bs => if (claimR U bs (gNum l a 2) (gNum l (a + 2) 2)).2.2 = 0 then dcl U l m (a + 4) (claimR U bs (gNum l a 2) (gNum l (a + 2) 2)).1 else none
def decB (l : List Int) : Option (Nat × List Pc) :=
  if 1024 < gNum l 0 2 ∨ l.length < 4 then none else
    match dcl (gNum l 0 2).toNat l ((l.length - 4) / 4) 4 [] with
    | none => none
    | some bs => if encL (gNum l 0 2).toNat bs ++ encG bs = l then some ((gNum l 0 2).toNat, bs) else none
theorem gNum_rangeB {l : List Int} (hb : Bys l) (a : Int) : 0 ≤ gNum l a 2 ∧ gNum l a 2 < 65536 := by
  unfold gNum
  split
  · have hc := cut_bys hb a.toNat 2
    refine ⟨numL_nonneg hc, Int.lt_of_lt_of_le (numL_lt hc) ?_⟩
    have : (cut l a.toNat 2).length ≤ 2 := by unfold cut; rw [List.length_take]; omega
    have h2 := Nat.pow_le_pow_right (n := 256) (by decide) this
    have h3 : (((256 : Nat) ^ (cut l a.toNat 2).length : Nat) : Int) ≤ ((256 ^ 2 : Nat) : Int) := Int.ofNat_le.2 h2
    rwa [Int.natCast_pow] at h3
  · exact ⟨Int.le_refl _, by decide⟩
theorem claimR_chain {bs : List Pc} {U : Nat} (h : Chain 0 bs U) (a n : Int) : Chain 0 (claimR U bs a n).1 U := by
  have := doR_chain h 2 a n
  rw [doR, if_neg (by decide), if_neg (by decide), if_pos rfl] at this
  exact this
/-- What Decode leaves. -/
def DecOut (w : World) (R : Option (Nat × List Pc)) (e : Ending) (w' : World) : Prop :=
  ((∃ (p s U : Nat) (bs : List Pc), R = some (U, bs) ∧ e = .returned (.tuple #[.pointer (some ⟨p, 0, none⟩), .int .i64 0]) ∧ HasB w' p s U bs ∧ w.heap.size ≤ p ∧ w.heap.size ≤ s) ∨ (R = none ∧ e = .returned (.tuple #[.pointer none, .int .i64 102]))) ∧ Below w.heap.size w w'
set_option maxRecDepth 100000 in
set_option maxHeartbeats 4000000 in
theorem decode_bad (w : World) (A : Option Addr) (c : Nat) (l : List Int) (hr : ReadsInt w .u8 A l.length l) (hb : Bys l) (h : 1024 < gNum l 0 2 ∨ l.length < 4) :
    Calls Try.prog 25 #[.slice A l.length c] w (DecOut w none) := by
  have HR := Aside0.mk hr
  have HBY := Aside0.mk hb
  obtain ⟨hg0, hg1⟩ := gNum_rangeB hb 0
  obtain ⟨gn, hgn⟩ : ∃ gn, gn = gNum l 0 2 := ⟨_, rfl⟩
  rw [← hgn] at hg0 hg1 h
  have HGN := Aside0.mk hgn.symm
  have hwg : IntKind.i64.wrap gn = gn := IntWalk.i64_in _ (by omega)
  clear hr hb hgn
  by_cases hg : 1024 < gn
  · clear h
    go_enter Try.func25, Try.ntmps25
    go_wp2_with (first | (go_at_call 41; (with_reducible refine (get_any A c l 0 2 _ HR.out HBY.out).mono ?_); rw [HGN.out]; rintro e w1 ⟨rfl, hb1⟩; have HB1 := Aside0.mk hb1; clear hb1) | (go_at_call 10; (with_reducible refine (new_bad _ gn (.inr hg)).mono ?_); rintro e w2 ⟨rfl, rfl⟩))
    go_ret2
    exact ⟨.inr ⟨rfl, rfl⟩, HB1.out⟩
  · have hl : l.length < 4 := by omega
    have hl2 : decide ((l.length : Int) < 4) = true := decide_eq_true (by omega)
    clear h
    obtain ⟨n, rfl⟩ : ∃ n : Nat, gn = n := ⟨gn.toNat, by omega⟩
    go_enter Try.func25, Try.ntmps25
    go_wp2_with (first | (go_at_call 41; (with_reducible refine (get_any A c l 0 2 _ HR.out HBY.out).mono ?_); rw [HGN.out]; rintro e w1 ⟨rfl, hb1⟩; have HB1 := Aside0.mk hb1; clear hb1) | (go_at_call 10; (with_reducible refine (new_good _ n (by omega)).mono ?_); rintro e w2 ⟨p, s, rfl, hb2, hbw2, hp2, hs2⟩; have HB2 := Aside0.mk (bel_stepB HB1.out hbw2); clear hb2 hbw2 hp2 hs2))
    go_ret2
    exact ⟨.inr ⟨rfl, rfl⟩, HB2.out⟩
set_option maxRecDepth 100000 in
set_option maxHeartbeats 4000000 in
theorem decode_calls (w : World) (A : Option Addr) (c : Nat) (l : List Int) (hr : ReadsInt w .u8 A l.length l) (hb : Bys l) (hl6 : l.length ≤ 5000) :
    Calls Try.prog 25 #[.slice A l.length c] w (DecOut w (decB l)) := by
  by_cases h : 1024 < gNum l 0 2 ∨ l.length < 4
  · rw [decB, if_pos h]
    exact decode_bad w A c l hr hb h
  have hl4 : ¬ l.length < 4 := fun x => h (.inr x)
  obtain ⟨hg0, hg1⟩ := gNum_rangeB hb 0
  have hg4 : ¬ 1024 < gNum l 0 2 := fun x => h (.inl x)
  obtain ⟨U, hU⟩ : ∃ U : Nat, gNum l 0 2 = U := ⟨(gNum l 0 2).toNat, by omega⟩
  obtain ⟨Rs, hRs⟩ : ∃ Rs, Rs = decB l := ⟨_, rfl⟩
  have hdec := hRs
  rw [decB, if_neg h, hU, Int.toNat_natCast] at hdec
  rw [← hRs]
  obtain ⟨M, hM⟩ : ∃ M, M = (l.length - 4) / 4 := ⟨_, rfl⟩
  rw [← hM] at hdec
  have hM1 : 4 + 4 * M ≤ l.length := by omega
  have hM2 : l.length < 4 + 4 * M + 4 := by omega
  have HDEC := Aside0.mk hdec
  have HR := Aside0.mk hr
  have HBY := Aside0.mk hb
  have HGN := Aside0.mk hU
  have hU4 : U ≤ 1024 := by omega
  have hln : decide ((l.length : Int) < 4) = false := decide_eq_false (by omega)
  clear hr hb hU hdec hRs hM h hl4 hg4 hg0 hg1
  go_enter Try.func25, Try.ntmps25
  go_wp2_with (first | (go_at_call 41; (with_reducible refine (get_any A c l 0 2 _ HR.out HBY.out).mono ?_); rw [HGN.out]; rintro e w1 ⟨rfl, hb1⟩; have HB1 := Aside0.mk hb1; clear hb1) | (go_at_call 10; (with_reducible refine (new_good _ U hU4).mono ?_); rintro e w2 ⟨p, s, rfl, hb2, hbw2, hp2, hs2⟩; have HB2 := Aside0.mk (bel_stepB HB1.out hbw2); have HH2 := Aside0.mk hb2; have HP := Aside0.mk (Nat.le_trans HB1.out.size hp2); have HS := Aside0.mk (Nat.le_trans HB1.out.size hs2); clear hb2 hbw2 hp2 hs2))
  go_loopw [8] (fun a wr => ∃ (j : Nat) (bk : List Pc), j ≤ M ∧ a = .int .i64 (4 + 4 * (j : Int)) ∧ Aside0 (dcl U l M 4 [] = dcl U l (M - j) (4 + 4 * (j : Int)) bk) ∧ Aside0 (HasB wr p s U bk) ∧ Aside0 (Below w.heap.size w wr)) (fun a _ => (4 + 4 * (M : Int) - intOf a).toNat)
  case atStart => exact ⟨0, [], Nat.zero_le _, rfl, ⟨rfl⟩, HH2, HB2⟩
  case round =>
    obtain ⟨j, bk, hj, rfl, HD, HH, HB⟩ := hrel
    clear HH2 HB2
    obtain ⟨q, hq⟩ : ∃ q : Int, q = 4 + 4 * (j : Int) := ⟨_, rfl⟩
    rw [← hq] at HD
    rw [← hq]
    have HQ := Aside0.mk hq
    have hw4 : IntKind.i64.wrap (q + 4) = q + 4 := IntWalk.i64_in _ (by omega)
    have hw2 : IntKind.i64.wrap (q + 2) = q + 2 := IntWalk.i64_in _ (by omega)
    by_cases hjM : j < M
    · obtain ⟨m, hm⟩ : ∃ m, M - j = m + 1 := ⟨M - j - 1, by omega⟩
      have hd := HD.out
      rw [hm, dcl] at hd
      obtain ⟨ga, hga⟩ : ∃ ga, gNum l q 2 = ga := ⟨_, rfl⟩
      obtain ⟨gb, hgb⟩ : ∃ gb, gNum l (q + 2) 2 = gb := ⟨_, rfl⟩
      obtain ⟨ha0, ha1⟩ := gNum_rangeB HBY.out q
      obtain ⟨hb0, hb1⟩ := gNum_rangeB HBY.out (q + 2)
      rw [hga] at ha0 ha1 hd
      rw [hgb] at hb0 hb1 hd
      obtain ⟨r, hr⟩ : ∃ r, claimR U bk ga gb = r := ⟨_, rfl⟩
      rw [hr] at hd
      have HGA := Aside0.mk hga
      have HGB := Aside0.mk hgb
      have HRR := Aside0.mk hr
      have hwa : IntKind.i64.wrap ga = ga := IntWalk.i64_in _ (by omega)
      have hwb : IntKind.i64.wrap gb = gb := IntWalk.i64_in _ (by omega)
      have hle : q + 4 ≤ l.length := by omega
      have HD2 := Aside0.mk hd
      obtain ⟨rb, rv, re⟩ := r
      have HMM := Aside0.mk hm
      clear hga hgb hr hd hm hq
      by_cases hre : re = 0
      · subst hre
        go_wp2_with (first | (go_at_call 41; (with_reducible refine (get_any A c l q 2 _ (HR.out.below HB.out) HBY.out).mono ?_); rw [HGA.out]; rintro e w3 ⟨rfl, hb3⟩; have HB3 := Aside0.mk (bel_stepB HB.out hb3); have HH3 := Aside0.mk (HH.out.below hb3); clear hb3) | (go_at_call 41; (with_reducible refine (get_any A c l (q + 2) 2 _ (HR.out.below HB3.out) HBY.out).mono ?_); rw [HGB.out]; rintro e w4 ⟨rfl, hb4⟩; have HB4 := Aside0.mk (bel_stepB HB3.out hb4); have HH4 := Aside0.mk (HH3.out.below hb4); clear hb4) | (go_at_call 22; refine (claim_all _ p s U bk HH4.out ga gb _ HRR.out).mono ?_; rintro e w5 ⟨rfl, hh5, hf5⟩; have HB5 := Aside0.mk (HB4.out.trans (hf5.below _ HB4.out.size (fun b (hb : b = s) => by rw [hb]; exact HS.out))); have HH5 := Aside0.mk hh5; clear hh5 hf5))
        have hd := HD2.out
        simp only [if_true] at hd
        have hq := HQ.out
        have hm := HMM.out
        refine ⟨⟨j + 1, rb, by omega, ?_, ⟨?_⟩, HH5, HB5⟩, by simp only [intOf]; omega⟩
        · rw [show q + 4 = 4 + 4 * ((j + 1 : Nat) : Int) by omega]
        · rw [hd, show M - (j + 1) = m by omega, show q + 4 = 4 + 4 * ((j + 1 : Nat) : Int) by omega]
      · have hre2 : (re == 0) = false := by simpa using hre
        have HN := Aside0.mk (show Rs = none from by
          have h1 := HDEC.out
          rw [HD.out, show M - j = m + 1 from HMM.out, dcl, HGA.out, HGB.out, HRR.out, if_neg hre] at h1
          exact h1)
        clear hre
        go_wp2_with (first | (go_at_call 41; (with_reducible refine (get_any A c l q 2 _ (HR.out.below HB.out) HBY.out).mono ?_); rw [HGA.out]; rintro e w3 ⟨rfl, hb3⟩; have HB3 := Aside0.mk (bel_stepB HB.out hb3); have HH3 := Aside0.mk (HH.out.below hb3); clear hb3) | (go_at_call 41; (with_reducible refine (get_any A c l (q + 2) 2 _ (HR.out.below HB3.out) HBY.out).mono ?_); rw [HGB.out]; rintro e w4 ⟨rfl, hb4⟩; have HB4 := Aside0.mk (bel_stepB HB3.out hb4); have HH4 := Aside0.mk (HH3.out.below hb4); clear hb4) | (go_at_call 22; refine (claim_all _ p s U bk HH4.out ga gb _ HRR.out).mono ?_; rintro e w5 ⟨rfl, hh5, hf5⟩; have HB5 := Aside0.mk (HB4.out.trans (hf5.below _ HB4.out.size (fun b (hb : b = s) => by rw [hb]; exact HS.out))); clear hh5 hf5))
        go_ret2
        exact ⟨.inr ⟨HN.out, rfl⟩, HB5.out⟩
    · have hle : ¬ q + 4 ≤ l.length := by omega
      obtain rfl : j = M := by omega
      have HDD := Aside0.mk (show Rs = if encL U bk ++ encG bk = l then some (U, bk) else none from by
        have h1 := HDEC.out
        rw [HD.out, Nat.sub_self, dcl] at h1
        exact h1)
      obtain ⟨E, hE⟩ : ∃ E, encL U bk ++ encG bk = E := ⟨_, rfl⟩
      rw [hE] at HDD
      have HE := Aside0.mk hE
      clear hq hE
      by_cases hEl : E = l
      · have HEQ := Aside0.mk (decide_eq_true hEl)
        have HN := Aside0.mk (show Rs = some (U, bk) by rw [HDD.out, if_pos hEl])
        clear hEl
        go_wp2_with (first | (go_at_call 27; (with_reducible refine (encode_calls _ p s U bk HH.out).mono ?_); rw [HE.out]; rintro e w6 ⟨v6, rfl, hr6, hb6⟩; obtain ⟨A6, c6, rfl, hc6, hC6⟩ := Kd.R_reads hr6; have HR6 := Aside0.mk (show ReadsInt w6 .u8 A6 E.length E from Kd.reads_of_C (d := (0 : Int)) hC6); have HB6 := Aside0.mk (bel_stepB HB.out hb6); have HH6 := Aside0.mk (HH.out.below hb6); clear hr6 hb6 hC6) | (go_at_call 42; (with_reducible refine (eq_calls A6 A c6 c E l _ HR6.out (HR.out.below HB6.out)).mono ?_); rw [HEQ.out]; rintro e w7 ⟨rfl, hb7⟩; have HB7 := Aside0.mk (bel_stepB HB6.out hb7); have HH7 := Aside0.mk (HH6.out.below hb7); clear hb7))
        go_ret2
        exact ⟨.inl ⟨p, s, U, bk, HN.out, rfl, HH7.out, HP.out, HS.out⟩, HB7.out⟩
      · have HEQ := Aside0.mk (decide_eq_false hEl)
        have HN := Aside0.mk (show Rs = none by rw [HDD.out, if_neg hEl])
        clear hEl
        go_wp2_with (first | (go_at_call 27; (with_reducible refine (encode_calls _ p s U bk HH.out).mono ?_); rw [HE.out]; rintro e w6 ⟨v6, rfl, hr6, hb6⟩; obtain ⟨A6, c6, rfl, hc6, hC6⟩ := Kd.R_reads hr6; have HR6 := Aside0.mk (show ReadsInt w6 .u8 A6 E.length E from Kd.reads_of_C (d := (0 : Int)) hC6); have HB6 := Aside0.mk (bel_stepB HB.out hb6); have HH6 := Aside0.mk (HH.out.below hb6); clear hr6 hb6 hC6) | (go_at_call 42; (with_reducible refine (eq_calls A6 A c6 c E l _ HR6.out (HR.out.below HB6.out)).mono ?_); rw [HEQ.out]; rintro e w7 ⟨rfl, hb7⟩; have HB7 := Aside0.mk (bel_stepB HB6.out hb7); have HH7 := Aside0.mk (HH6.out.below hb7); clear hb7))
        go_ret2
        exact ⟨.inr ⟨HN.out, rfl⟩, HB7.out⟩
end Go.Proofs.Ytgendnoafemgpaa.Hand
namespace Go.Proofs.Ytgendnoafemgpaa.Hand
attribute [local go_sem] Oper.semAt_some
open Go.RowKit Go.Maps Go.Proofs.YtgendnoafemgpaaW.PrintWords Go.Proofs.YtgendnoafemgpaaW.PrintLast Go.Proofs.Ytgendnoafemgpaa.PHandRB
set_option linter.unusedVariables false
set_option linter.unusedSimpArgs false
theorem rput2c (W : World) {x : Int} (h0 : 0 ≤ x) (h1 : x < 65536) : Calls Try.prog 45 #[.int .i64 2, .int .u64 x] W fun e w' => e = .returned (.string (strOfNums (leB x 2))) ∧ Below W.heap.size W w' :=
  rPut_yes 2 x W (by simp only [rfitsB, Bool.and_eq_true, decide_eq_true_eq]; exact ⟨by decide, by rw [show topN 2 = 65535 from rfl]; omega⟩) h0
theorem cat_fitsc {a b : List Int} (h : a.length + b.length ≤ 9223372036854775807) : (9223372036854775807 < (strOfNums a).size + (strOfNums b).size) = False := eq_false (by rw [strOfNums_size, strOfNums_size]; omega)
theorem str_eqc {a b : List Int} (h : (strOfNums a).toList = (strOfNums b).toList) : strOfNums a = strOfNums b := by
  rw [Lib.strOfNums_toList, Lib.strOfNums_toList] at h
  show ByteArray.mk (Lib.bytesOf a).toArray = ByteArray.mk (Lib.bytesOf b).toArray
  rw [h]
theorem leB_twoc (n : Int) : leB n 2 = [n % 256, n / 256 % 256] := by
  simp [leB]
theorem encG_bysc : ∀ (bs : List Pc), Bys (encG bs)
  | [] => fun x hx => by simp [encG] at hx
  | q :: l => by
    intro x hx
    simp only [encG, List.flatMap_cons, List.mem_append] at hx
    rcases hx with (hx | hx) | hx
    · rw [leB_twoc] at hx; simp at hx; omega
    · rw [leB_twoc] at hx; simp at hx; omega
    · exact encG_bysc l x hx
theorem enc_bysc (U : Nat) (bs : List Pc) : Bys (encL U bs ++ encG bs) := by
  intro x hx
  rcases List.mem_append.1 hx with hx | hx
  · rw [encL, leB_twoc, leB_twoc] at hx; simp at hx; omega
  · exact encG_bysc bs x hx
theorem enc_len (U : Nat) (bs : List Pc) : (encL U bs ++ encG bs).length = 4 + 4 * bs.length := by rw [List.length_append, encG_length, encL, List.length_append, leB_length, leB_length]
set_option maxRecDepth 100000 in
set_option maxHeartbeats 4000000 in
theorem rencode_calls (w : World) (A : Option Addr) (c U : Nat) (bs : List Pc) (hr : Kd.C (Kd.int .i64) w A U (occ U bs)) (hc : U ≤ c) (hU : U ≤ 1024) (h : Chain 0 bs U) :
    Calls Try.prog 28 #[.slice A U c] w fun e w' => e = .returned (.string (strOfNums (encL U bs ++ encG bs))) ∧ Below w.heap.size w w' := by
  have hbl := h.le_len
  have HR := Aside0.mk hr
  have HH := Aside0.mk h
  have HPU := Aside0.mk (fun (W : World) => rput2c W (x := (U : Int)) (by omega) (by omega))
  have HPL := Aside0.mk (fun (W : World) => rput2c W (x := (bs.length : Int)) (by omega) (by omega))
  have eU : IntKind.u64.wrap (U : Int) = U := u64_wrap_of (by omega) (by omega)
  have eL : IntKind.u64.wrap (bs.length : Int) = bs.length := u64_wrap_of (by omega) (by omega)
  have f0 := cat_fitsc (a := leB (U : Int) 2) (b := leB (bs.length : Int) 2) (by rw [leB_length, leB_length]; decide)
  clear hr h
  have HST := Aside0.mk (show Calls Try.prog 24 #[.slice A U c] w fun e w' => ∃ A2 c2, e = .returned (.slice A2 bs.length c2) ∧ Kd.R (Kd.int .i64) 3 w' w.heap.size (fun _ => True) (.slice A2 bs.length c2) (startsI bs) ∧ Below w.heap.size w w' from by
    have := ecdysisref10_Starts.calls 2000 A c (occ U bs) (startsI bs) w (occ_C HR.out) (by rw [occ_len]; exact hc) (starts_f hU HH.out 2000 (Nat.le_refl _))
    rw [occ_len] at this
    refine this.mono ?_
    rintro e w' ⟨v, rfl, hr2, hb⟩
    obtain ⟨A2, c2, rfl, hc2, hC⟩ := Kd.R_reads hr2
    rw [startsI_len] at hr2 ⊢
    exact ⟨A2, c2, rfl, hr2, hb⟩)
  go_enter Try.func28, Try.ntmps28
  go_wp2_with (first | (go_at_call 24; ((with_reducible refine HST.out.mono ?_); rintro e w1 ⟨A2, c2, rfl, hR1, hb1⟩; have HR1 := Aside0.mk hR1; have HB1 := Aside0.mk hb1; clear hR1 hb1)) | (go_at_call 45; ((with_reducible refine (HPU.out _).mono ?_); rintro e w2 ⟨rfl, hb2⟩; have HB2 := Aside0.mk (bel_stepB HB1.out hb2); have HR2 := Aside0.mk (R_step HR1.out hb2); clear hb2)) | (go_at_call 45; ((with_reducible refine (HPL.out _).mono ?_); rintro e w3 ⟨rfl, hb3⟩; have HB3 := Aside0.mk (bel_stepB HB2.out hb3); have HR3 := Aside0.mk (R_step HR2.out hb3); clear hb3)))
  go_loopw [4, 5] (fun u i wr => ∃ t : Nat, t ≤ bs.length ∧ i = .int .i64 (t : Int) ∧ u = .string (strOfNums (encL U bs ++ encG (bs.take t))) ∧ Aside0 (Kd.R (Kd.int .i64) 3 wr w.heap.size (fun _ => True) (.slice A2 bs.length c2) (startsI bs)) ∧ Aside0 (Below w.heap.size w wr)) (fun _ i _ => (bs.length - intOf i).toNat)
  case atStart => exact ⟨0, Nat.zero_le _, rfl, by rw [str_app]; simp [encL, encG], HR3, HB3⟩
  case round =>
    obtain ⟨t, ht, rfl, rfl, HRt, HB⟩ := hrel
    clear HR1 HR2 HR3
    by_cases hlt : t < bs.length
    · obtain ⟨q, hx⟩ : ∃ q, bs[t]? = some q := ⟨_, List.getElem?_eq_getElem hlt⟩
      have hq := chain_mem HH.out q (List.mem_of_getElem? hx)
      have HLQ := Aside0.mk (show longI bs (q.1 : Int) = (q.2 : Int) by rw [longI_nat, longN_of HH.out (List.mem_of_getElem? hx)])
      have HTK := Aside0.mk (show encG (bs.take (t + 1)) = encG (bs.take t) ++ leB q.1 2 ++ leB q.2 2 by rw [take_snoc hx, encG_snoc])
      have hbL : (encL U bs ++ encG (bs.take t)).length ≤ 100000 := by rw [List.length_append, encG_length, encL, List.length_append, leB_length, leB_length, List.length_take]; omega
      obtain ⟨g, cap', e1, hg, _, hcap, _⟩ := own_slice_form HRt.out (by rw [startsI_len]; omega)
      simp only [Value.slice.injEq] at e1
      obtain ⟨rfl, -, rfl⟩ := e1
      have hcell : wr.cell? ⟨g, t, none⟩ = some (.int .i64 (q.1 : Int)) := by
        obtain ⟨A9, c9, e2, _, hC⟩ := Kd.R_reads HRt.out
        simp only [Value.slice.injEq] at e2
        obtain ⟨rfl, -, rfl⟩ := e2
        have hR := Kd.reads_of_C (d := (0 : Int)) hC
        obtain ⟨ad, ea, hc⟩ := hR.2.2 (by rw [startsI_len]; omega)
        obtain rfl := Option.some.inj ea
        have := hc t (by rw [startsI_len]; exact hlt)
        rw [add_plain, List.getD_eq_getElem?_getD, startsI_get hx] at this
        simpa using this
      obtain ⟨a, n⟩ := q
      simp only at hq hcell
      have HPX := Aside0.mk (fun (W : World) => rput2c W (x := (a : Int)) (by omega) (by omega))
      have HPY := Aside0.mk (fun (W : World) => rput2c W (x := (n : Int)) (by omega) (by omega))
      have EW := Aside0.mk (show IntKind.u64.wrap (a : Int) = a from u64_wrap_of (by omega) (by omega))
      have EN := Aside0.mk (show IntKind.u64.wrap (n : Int) = n from u64_wrap_of (by omega) (by omega))
      obtain ⟨L, hL⟩ : ∃ L, L = encL U bs ++ encG (bs.take t) := ⟨_, rfl⟩
      rw [← hL] at hbL ⊢
      have HLL := Aside0.mk hL
      have f1 := cat_fitsc (a := L) (b := leB (a : Int) 2) (by rw [leB_length]; omega)
      have f2 := cat_fitsc (a := L ++ leB (a : Int) 2) (b := leB (n : Int) 2) (by rw [List.length_append, leB_length, leB_length]; omega)
      clear hx hL hcap hg f0 eU eL
      go_wp2
      refine start_ (n := 18) (S := fun w' => w'.cell? ⟨g, t, none⟩ = some (.int .i64 (a : Int))) (ds := []) #[false, false, false, false, false, false, false, false, false, false, false, false, false, false, false, false, false, false] (by kernel_rfl) rfl rfl (hcell) (fun hHeld => ?_)
      refine pure_ (i := 0) (N := some 23) (v := ?_) (a' := ?_) #[true, false, false, false, false, false, false, false, false, false, false, false, false, false, false, false, false, false] rfl rfl (by kernel_rfl) (fun _ _ _ h => h) (Or.inl ⟨by rfl, ?_⟩) ?_ ?_
      rotate_left
      · intro w'
        go_simp
        with_reducible rfl
      rotate_left
      · simp only [Act.put, List.setIfInBounds_toArray, List.set_cons_zero, List.set_cons_succ, i64_w, i32_w]
        rfl
      refine pure_ (i := 1) (N := some 24) (v := ?_) (a' := ?_) #[true, true, false, false, false, false, false, false, false, false, false, false, false, false, false, false, false, false] rfl rfl (by kernel_rfl) (fun _ _ _ h => h) (Or.inl ⟨by rfl, ?_⟩) ?_ ?_
      rotate_left
      · intro w'
        go_simp
        with_reducible rfl
      rotate_left
      · simp only [Act.put, List.setIfInBounds_toArray, List.set_cons_zero, List.set_cons_succ, i64_w, i32_w]
        rfl
      refine pure_ (i := 2) (N := some 25) (v := ?_) (a' := ?_) #[true, true, true, false, false, false, false, false, false, false, false, false, false, false, false, false, false, false] rfl rfl (by kernel_rfl) (fun _ _ _ h => h) (Or.inl ⟨by rfl, ?_⟩) ?_ ?_
      rotate_left
      · intro w'
        go_simp
        with_reducible rfl
      rotate_left
      · simp only [Act.put, List.setIfInBounds_toArray, List.set_cons_zero, List.set_cons_succ, i64_w, i32_w]
        rfl
      refine pure_ (i := 3) (N := some 26) (v := ?_) (a' := ?_) #[true, true, true, true, false, false, false, false, false, false, false, false, false, false, false, false, false, false] rfl rfl (by kernel_rfl) (fun _ _ _ h => h) (Or.inl ⟨by rfl, ?_⟩) ?_ ?_
      rotate_left
      · intro w'
        go_simp
        with_reducible rfl
      rotate_left
      · simp only [Act.put, List.setIfInBounds_toArray, List.set_cons_zero, List.set_cons_succ, i64_w, i32_w]
        rfl
      refine pure_ (i := 8) (N := some 31) (v := ?_) (a' := ?_) #[true, true, true, true, false, false, false, false, true, false, false, false, false, false, false, false, false, false] rfl rfl (by kernel_rfl) (fun _ _ _ h => h) (Or.inl ⟨by rfl, ?_⟩) ?_ ?_
      rotate_left
      · intro w'
        go_simp
        with_reducible rfl
      rotate_left
      · simp only [Act.put, List.setIfInBounds_toArray, List.set_cons_zero, List.set_cons_succ, i64_w, i32_w]
        rfl
      refine pure_ (i := 9) (N := some 32) (v := ?_) (a' := ?_) #[true, true, true, true, false, false, false, false, true, true, false, false, false, false, false, false, false, false] rfl rfl (by kernel_rfl) (fun _ _ _ h => h) (Or.inl ⟨by rfl, ?_⟩) ?_ ?_
      rotate_left
      · intro w'
        go_simp
        with_reducible rfl
      rotate_left
      · simp only [Act.put, List.setIfInBounds_toArray, List.set_cons_zero, List.set_cons_succ, i64_w, i32_w]
        rfl
      refine pure_ (i := 10) (N := some 33) (v := ?_) (a' := ?_) #[true, true, true, true, false, false, false, false, true, true, true, false, false, false, false, false, false, false] rfl rfl (by kernel_rfl) (fun _ _ _ h => h) (Or.inl ⟨by rfl, ?_⟩) ?_ ?_
      rotate_left
      · intro w'
        go_simp
        with_reducible rfl
      rotate_left
      · simp only [Act.put, List.setIfInBounds_toArray, List.set_cons_zero, List.set_cons_succ, i64_w, i32_w]
        rfl
      refine pure_ (i := 11) (N := some 34) (v := ?_) (a' := ?_) #[true, true, true, true, false, false, false, false, true, true, true, true, false, false, false, false, false, false] rfl rfl (by kernel_rfl) (fun _ _ _ h => h) (Or.inl ⟨by rfl, ?_⟩) ?_ ?_
      rotate_left
      · intro w'
        go_simp
        with_reducible rfl
      rotate_left
      · simp only [Act.put, List.setIfInBounds_toArray, List.set_cons_zero, List.set_cons_succ, i64_w, i32_w]
        rfl
      refine take_ (i := 4) (N := some 27) (v := ?_) (a' := ?_) #[true, true, true, true, true, false, false, false, true, true, true, true, false, false, false, false, false, false] rfl rfl (by kernel_rfl) (fun _ _ _ h => h) (Or.inl ⟨by rfl, ?_⟩) hHeld ?_ ?_
      rotate_left
      · intro w' s0
        go_simp
        with_reducible rfl
      rotate_left
      · simp only [Act.put, List.setIfInBounds_toArray, List.set_cons_zero, List.set_cons_succ, i64_w, i32_w]
        rfl
      refine pure_ (i := 5) (N := some 28) (v := ?_) (a' := ?_) #[true, true, true, true, true, true, false, false, true, true, true, true, false, false, false, false, false, false] rfl rfl (by kernel_rfl) (fun _ _ _ h => h) (Or.inl ⟨by rfl, ?_⟩) ?_ ?_
      rotate_left
      · intro w'
        go_simp
        rw [EW.out]
        try with_reducible rfl
      rotate_left
      · simp only [Act.put, List.setIfInBounds_toArray, List.set_cons_zero, List.set_cons_succ, i64_w, i32_w]
        rfl
      refine take_ (i := 12) (N := some 35) (v := ?_) (a' := ?_) #[true, true, true, true, true, true, false, false, true, true, true, true, true, false, false, false, false, false] rfl rfl (by kernel_rfl) (fun _ _ _ h => h) (Or.inl ⟨by rfl, ?_⟩) hHeld ?_ ?_
      rotate_left
      · intro w' s0
        go_simp
        with_reducible rfl
      rotate_left
      · simp only [Act.put, List.setIfInBounds_toArray, List.set_cons_zero, List.set_cons_succ, i64_w, i32_w]
        rfl
      refine one_ (i := 6) (N := some 29) #[true, true, true, true, true, true, true, false, true, true, true, true, true, false, false, false, false, false] rfl rfl (by kernel_rfl) (by decide) (fun K hK => ?_)
      refine goes_ Try.func45 (by kernel_rfl) rfl #[.int .i64 2, .int .u64 (a : Int)] (by rfl) rfl rfl (by simp only [List.map_toArray, List.map_cons, List.map_nil]; rfl) ?_
      with_reducible refine (HPX.out _).mono ?_
      rintro e w5 ⟨rfl, hb5⟩
      refine ⟨_, rfl, ?_⟩
      have HB5 := Aside0.mk (bel_stepB (show Below wr.heap.size wr wr.drew from (Below.refl _ _).drew) hb5)
      have i0 := bel_cellB hb5 hHeld
      clear hb5
      refine hK.out _ _ (i0) (fun hHeld => ?_)
      clear hK K
      refine norm_ (a' := ?_) ?_ ?_
      rotate_left
      · show Act.put _ (some 29) _ = _
        simp only [Act.put, List.setIfInBounds_toArray, List.set_cons_zero, List.set_cons_succ, i64_w, i32_w]
        rfl
      refine pure_ (i := 7) (N := some 30) (v := ?_) (a' := ?_) #[true, true, true, true, true, true, true, true, true, true, true, true, true, false, false, false, false, false] rfl rfl (by kernel_rfl) (fun _ _ _ h => h) (Or.inl ⟨by rfl, ?_⟩) ?_ ?_
      rotate_left
      · intro w'
        go_simp
        rw [str_app]
        try with_reducible rfl
      rotate_left
      · simp only [Act.put, List.setIfInBounds_toArray, List.set_cons_zero, List.set_cons_succ, i64_w, i32_w]
        rfl
      refine one_ (i := 13) (N := some 36) #[true, true, true, true, true, true, true, true, true, true, true, true, true, true, false, false, false, false] rfl rfl (by kernel_rfl) (by decide) (fun K hK => ?_)
      refine goes_ Try.func35 (by kernel_rfl) rfl #[.slice A U c, .int .i64 (a : Int)] (by rfl) rfl rfl (by simp only [List.map_toArray, List.map_cons, List.map_nil]; rfl) ?_
      with_reducible refine (rlong_calls (Kd.C_below HR.out (bel_stepB HB.out HB5.out)) hc hU HH.out (a : Int) (by constructor <;> omega)).mono ?_
      rintro e w6 ⟨rfl, hb6⟩
      refine ⟨_, rfl, ?_⟩
      have HB6 := Aside0.mk (bel_stepB HB5.out hb6)
      have j0 := bel_cellB hb6 hHeld
      clear hb6
      rw [HLQ.out]
      refine hK.out _ _ (j0) (fun hHeld => ?_)
      clear hK K
      refine norm_ (a' := ?_) ?_ ?_
      rotate_left
      · show Act.put _ (some 36) _ = _
        simp only [Act.put, List.setIfInBounds_toArray, List.set_cons_zero, List.set_cons_succ, i64_w, i32_w]
        rfl
      refine pure_ (i := 14) (N := some 37) (v := ?_) (a' := ?_) #[true, true, true, true, true, true, true, true, true, true, true, true, true, true, true, false, false, false] rfl rfl (by kernel_rfl) (fun _ _ _ h => h) (Or.inl ⟨by rfl, ?_⟩) ?_ ?_
      rotate_left
      · intro w'
        go_simp
        rw [EN.out]
        try with_reducible rfl
      rotate_left
      · simp only [Act.put, List.setIfInBounds_toArray, List.set_cons_zero, List.set_cons_succ, i64_w, i32_w]
        rfl
      refine one_ (i := 15) (N := some 38) #[true, true, true, true, true, true, true, true, true, true, true, true, true, true, true, true, false, false] rfl rfl (by kernel_rfl) (by decide) (fun K hK => ?_)
      refine goes_ Try.func45 (by kernel_rfl) rfl #[.int .i64 2, .int .u64 (n : Int)] (by rfl) rfl rfl (by simp only [List.map_toArray, List.map_cons, List.map_nil]; rfl) ?_
      with_reducible refine (HPY.out _).mono ?_
      rintro e w7 ⟨rfl, hb7⟩
      refine ⟨_, rfl, ?_⟩
      have HB7 := Aside0.mk (bel_stepB HB6.out hb7)
      have k0 := bel_cellB hb7 hHeld
      clear hb7
      refine hK.out _ _ (k0) (fun hHeld => ?_)
      clear hK K
      refine norm_ (a' := ?_) ?_ ?_
      rotate_left
      · show Act.put _ (some 38) _ = _
        simp only [Act.put, List.setIfInBounds_toArray, List.set_cons_zero, List.set_cons_succ, i64_w, i32_w]
        rfl
      refine pure_ (i := 16) (N := some 39) (v := ?_) (a' := ?_) #[true, true, true, true, true, true, true, true, true, true, true, true, true, true, true, true, true, false] rfl rfl (by kernel_rfl) (fun _ _ _ h => h) (Or.inl ⟨by rfl, ?_⟩) ?_ ?_
      rotate_left
      · intro w'
        go_simp
        rw [str_app]
        try with_reducible rfl
      rotate_left
      · simp only [Act.put, List.setIfInBounds_toArray, List.set_cons_zero, List.set_cons_succ, i64_w, i32_w]
        rfl
      refine pure_ (i := 17) (N := some 4) (v := ?_) (a' := ?_) #[true, true, true, true, true, true, true, true, true, true, true, true, true, true, true, true, true, true] rfl rfl (by kernel_rfl) (fun _ _ _ h => h) (Or.inl ⟨by rfl, ?_⟩) ?_ ?_
      rotate_left
      · intro w'
        go_simp
        with_reducible rfl
      rotate_left
      · simp only [Act.put, List.setIfInBounds_toArray, List.set_cons_zero, List.set_cons_succ, i64_w, i32_w]
        rfl
      refine done_ (by kernel_rfl) ?_
      go_wp2
      refine ⟨⟨t + 1, by omega, by go_num, ?_, ⟨R_step HRt.out HB7.out⟩, ⟨bel_stepB HB.out HB7.out⟩⟩, by simp [intOf]; omega⟩
      rw [HTK.out, HLL.out]
      simp only [List.append_assoc]
    · obtain rfl : t = bs.length := by omega
      go_wp2
      go_ret
      exact ⟨by rw [List.take_of_length_le (Nat.le_refl _)]; rfl, HB.out⟩
theorem rdo2_calls (w0 w : World) (hB : Below w0.heap.size w0 w) (U : Nat) (bs : List Pc) (hm : U ≤ 1024) (hok : Chain 0 bs U) (A : Option Addr) (c : Nat) (hr : Kd.R (Kd.int .i64) 3 w w0.heap.size (fun _ => True) (.slice A U c) (occ U bs)) (a n : Int) (ha : I64 a) (hn : I64 n) :
    Calls Try.prog 34 #[.slice A U c, .agg #[.int .i64 2, .int .i64 a, .int .i64 n]] w fun e w' => ∃ A2 c2, e = .returned (.tuple #[.slice A2 U c2, .int .i64 (claimR U bs a n).2.1, .int .i64 (claimR U bs a n).2.2]) ∧
      Kd.R (Kd.int .i64) 3 w' w0.heap.size (fun _ => True) (.slice A2 U c2) (occ U (claimR U bs a n).1) ∧ U ≤ c2 ∧ Below w0.heap.size w0 w' := by
  have hd := do_f hm hok 2 a n ha hn 6000 (Nat.le_refl _)
  rw [doR, if_neg (by decide), if_neg (by decide), if_pos rfl] at hd
  refine (ecdysisref10_Do.calls 6000 (fun _ => True) (.slice A U c) (occ U bs) 2 a n _ _ _ w0 w hB hr hd).mono ?_
  rintro e w' ⟨v, rfl, hrv, hb, hk⟩
  obtain ⟨A2, c2, rfl, hc2, _⟩ := Kd.R_reads hrv
  rw [occ_len] at hrv hc2 ⊢
  exact ⟨A2, c2, rfl, Kd.R_mono hrv (fun _ _ => trivial), hc2, hb⟩
theorem rnew_bad (w : World) (x : Int) (hx : 1024 < x) : Calls Try.prog 33 #[.int .i64 x] w fun e w' => ∃ v, e = .returned (.tuple #[v, .bool false]) ∧ Below w.heap.size w w' := by
  have hf : ecdysisref10_New.f x = some ([], false) := by rw [ecdysisref10_New.f, if_neg (by omega), if_pos (by omega)]
  refine (ecdysisref10_New.calls x _ _ w hf).mono ?_
  rintro e w' ⟨v, rfl, hr, hb⟩
  exact ⟨v, rfl, hb⟩
/-- What the document's Decode leaves. -/
def RDecB (w : World) (R : Option (Nat × List Pc)) (e : Ending) (w' : World) : Prop :=
  ((∃ (A : Option Addr) (c U : Nat) (bs : List Pc), R = some (U, bs) ∧ e = .returned (.tuple #[.slice A U c, .bool true]) ∧ Kd.R (Kd.int .i64) 3 w' w.heap.size (fun _ => True) (.slice A U c) (occ U bs) ∧ U ≤ c) ∨ (R = none ∧ ∃ v, e = .returned (.tuple #[v, .bool false]))) ∧ Below w.heap.size w w'
def gOk (l : List Int) (a : Int) : Bool := rightB 2 && insideB a 2 l.length
theorem gOk_in {l : List Int} {a : Int} (h0 : 0 ≤ a) (h : a + 2 ≤ l.length) : gOk l a = true := by simp [gOk, rightB, insideB]; omega
set_option maxRecDepth 100000 in
set_option maxHeartbeats 4000000 in
theorem rdecode_bad (w : World) (l : List Int) (hb : Bys l) (hl : l.length ≤ 5000) (h : l.length < 2 ∨ 1024 < gNum l 0 2) :
    Calls Try.prog 26 #[.string (strOfNums l)] w (RDecB w none) := by
  have HG := Aside0.mk (fun (a : Int) (W : World) => show Calls Try.prog 43 #[.string (strOfNums l), .int .i64 a, .int .i64 2] W (fun e w' => e = .returned (.tuple #[.int .u64 (gNum l a 2), .bool (gOk l a)]) ∧ W = w') from rGet_any l a 2 W hb (by omega))
  obtain ⟨g0, g1⟩ := gNum_rangeB hb 0
  obtain ⟨gn, hgn⟩ : ∃ gn, gNum l 0 2 = gn := ⟨_, rfl⟩
  rw [hgn] at g0 g1 h
  have HGN := Aside0.mk hgn
  have hwg : IntKind.i64.wrap gn = gn := IntWalk.i64_in _ (by omega)
  obtain ⟨s, hs⟩ : ∃ s, s = strOfNums l := ⟨_, rfl⟩
  rw [← hs] at HG ⊢
  obtain ⟨ok, hok⟩ : ∃ ok, gOk l 0 = ok := ⟨_, rfl⟩
  have HOK := Aside0.mk hok
  by_cases hg4 : 1024 < gn
  · clear h hs hgn hok
    cases ok with
    | true =>
      go_enter Try.func26, Try.ntmps26
      go_wp2_with (first | (go_at_call 43; (with_reducible refine (HG.out 0 _).mono ?_); rw [HGN.out, HOK.out]; rintro e w1 ⟨rfl, rfl⟩) | (go_at_call 33; (with_reducible refine (rnew_bad _ gn hg4).mono ?_); rintro e w2 ⟨v, rfl, hb2⟩; have HB2 := Aside0.mk hb2; clear hb2))
      go_ret2
      exact ⟨.inr ⟨rfl, _, rfl⟩, HB2.out⟩
    | false =>
      go_enter Try.func26, Try.ntmps26
      go_wp2_with (first | (go_at_call 43; (with_reducible refine (HG.out 0 _).mono ?_); rw [HGN.out, HOK.out]; rintro e w1 ⟨rfl, rfl⟩) | (go_at_call 33; (with_reducible refine (rnew_bad _ gn hg4).mono ?_); rintro e w2 ⟨v, rfl, hb2⟩; have HB2 := Aside0.mk hb2; clear hb2))
      go_ret2
      exact ⟨.inr ⟨rfl, _, rfl⟩, HB2.out⟩
  · have hl2 : l.length < 2 := by omega
    have hok2 : gOk l 0 = false := by simp [gOk, rightB, insideB]; omega
    rw [hok2] at hok
    subst hok
    obtain ⟨n, rfl⟩ : ∃ n : Nat, gn = n := ⟨gn.toNat, by omega⟩
    clear h hs hgn hok2
    go_enter Try.func26, Try.ntmps26
    go_wp2_with (first | (go_at_call 43; (with_reducible refine (HG.out 0 _).mono ?_); rw [HGN.out, HOK.out]; rintro e w1 ⟨rfl, rfl⟩) | (go_at_call 33; (with_reducible refine (rnew_calls _ n (by omega)).mono ?_); rintro e w2 ⟨A, c, rfl, hr2, hc2, hb2⟩; have HB2 := Aside0.mk hb2; clear hb2 hr2))
    go_ret2
    exact ⟨.inr ⟨rfl, _, rfl⟩, HB2.out⟩
set_option maxRecDepth 100000 in
set_option maxHeartbeats 4000000 in
theorem rdecode_calls (w : World) (l : List Int) (hb : Bys l) (hl : l.length ≤ 5000) :
    Calls Try.prog 26 #[.string (strOfNums l)] w (RDecB w (decB l)) := by
  by_cases hbad : l.length < 2 ∨ 1024 < gNum l 0 2
  · have : decB l = none := by rw [decB, if_pos (by rcases hbad with h | h; exact .inr (by omega); exact .inl h)]
    rw [this]
    exact rdecode_bad w l hb hl hbad
  have hl2 : ¬ l.length < 2 := fun x => hbad (.inl x)
  have hg4 : ¬ 1024 < gNum l 0 2 := fun x => hbad (.inr x)
  obtain ⟨g0, g1⟩ := gNum_rangeB hb 0
  obtain ⟨U, hU⟩ : ∃ U : Nat, gNum l 0 2 = U := ⟨(gNum l 0 2).toNat, by omega⟩
  obtain ⟨M, hM⟩ : ∃ M, M = (l.length - 4) / 4 := ⟨_, rfl⟩
  obtain ⟨Rs, hRs⟩ : ∃ Rs, Rs = decB l := ⟨_, rfl⟩
  rw [← hRs]
  have hdec : l.length < 4 ∧ Rs = none ∨ 4 ≤ l.length ∧ Rs = (match dcl U l M 4 [] with | none => none | some bs => if encL U bs ++ encG bs = l then some (U, bs) else none) := by
    by_cases h4 : l.length < 4
    · exact .inl ⟨h4, by rw [hRs, decB, if_pos (.inr h4)]⟩
    · exact .inr ⟨by omega, by rw [hRs, decB, if_neg (by omega), hU, Int.toNat_natCast, ← hM]; try (cases dcl U l M 4 [] <;> rfl)⟩
  have hM1 : M = 0 ∨ 4 + 4 * M ≤ l.length := by omega
  have hM2 : l.length < 4 + 4 * M + 4 := by omega
  have HG := Aside0.mk (fun (a : Int) (W : World) => show Calls Try.prog 43 #[.string (strOfNums l), .int .i64 a, .int .i64 2] W (fun e w' => e = .returned (.tuple #[.int .u64 (gNum l a 2), .bool (gOk l a)]) ∧ W = w') from rGet_any l a 2 W hb (by omega))
  have HDEC := Aside0.mk hdec
  have HBY := Aside0.mk hb
  have HGN := Aside0.mk hU
  have HOK := Aside0.mk (gOk_in (l := l) (a := 0) (by omega) (by omega))
  have hU4 : U ≤ 1024 := by omega
  obtain ⟨s, hs⟩ : ∃ s, s = strOfNums l := ⟨_, rfl⟩
  have HS := Aside0.mk hs
  have hsz : s.size = l.length := by rw [hs]; exact strOfNums_size l
  have HSZ := Aside0.mk hsz
  rw [← hs] at HG ⊢
  have hwU : IntKind.i64.wrap (U : Int) = U := IntWalk.i64_in _ (by omega)
  clear hb hU hdec hRs hM hbad hl2 hg4 g0 g1 hs hsz
  go_enter Try.func26, Try.ntmps26
  go_wp2_with (first | (go_at_call 43; (with_reducible refine (HG.out 0 _).mono ?_); rw [HGN.out, HOK.out]; rintro e w1 ⟨rfl, rfl⟩) | (go_at_call 33; (with_reducible refine (rnew_calls _ U hU4).mono ?_); rintro e w2 ⟨A, c, rfl, hr2, hc2, hb2⟩; have HB2 := Aside0.mk hb2; have HR2 := Aside0.mk hr2; have HC2 := Aside0.mk hc2; clear hb2 hr2 hc2))
  go_loopw [6, 8] (fun v a wr => ∃ (j : Nat) (bk : List Pc) (Ak : Option Addr) (ck : Nat), j ≤ M ∧ v = .slice Ak U ck ∧ a = .int .i64 (4 + 4 * (j : Int)) ∧ Aside0 (dcl U l M 4 [] = dcl U l (M - j) (4 + 4 * (j : Int)) bk) ∧ Aside0 (Chain 0 bk U) ∧ Aside0 (Kd.R (Kd.int .i64) 3 wr w.heap.size (fun _ => True) (.slice Ak U ck) (occ U bk)) ∧ Aside0 (U ≤ ck) ∧ Aside0 (Below w.heap.size w wr)) (fun _ a _ => (4 + 4 * (M : Int) - intOf a).toNat)
  case atStart => exact ⟨0, [], A, c, Nat.zero_le _, rfl, rfl, ⟨rfl⟩, ⟨Nat.zero_le _⟩, HR2, HC2, HB2⟩
  case round =>
    obtain ⟨j, bk, Ak, ck, hj, rfl, rfl, HD, HH, HRk, HCk, HB⟩ := hrel
    clear HR2 HB2 HC2
    obtain ⟨q, hq⟩ : ∃ q : Int, q = 4 + 4 * (j : Int) := ⟨_, rfl⟩
    rw [← hq] at HD
    rw [← hq]
    have HQ := Aside0.mk hq
    have hsz := HSZ.out
    have hw4 : IntKind.i64.wrap (q + 4) = q + 4 := IntWalk.i64_in _ (by omega)
    have hw2 : IntKind.i64.wrap (q + 2) = q + 2 := IntWalk.i64_in _ (by omega)
    by_cases hjM : j < M
    · obtain ⟨m, hm⟩ : ∃ m, M - j = m + 1 := ⟨M - j - 1, by omega⟩
      have hd := HD.out
      rw [hm, dcl] at hd
      obtain ⟨ga, hga⟩ : ∃ ga, gNum l q 2 = ga := ⟨_, rfl⟩
      obtain ⟨gb, hgb⟩ : ∃ gb, gNum l (q + 2) 2 = gb := ⟨_, rfl⟩
      obtain ⟨ha0, ha1⟩ := gNum_rangeB HBY.out q
      obtain ⟨hb0, hb1⟩ := gNum_rangeB HBY.out (q + 2)
      rw [hga] at ha0 ha1 hd
      rw [hgb] at hb0 hb1 hd
      obtain ⟨r, hr⟩ : ∃ r, claimR U bk ga gb = r := ⟨_, rfl⟩
      have hch := claimR_chain HH.out ga gb
      rw [hr] at hd hch
      have HGA := Aside0.mk hga
      have HGB := Aside0.mk hgb
      have HRR := Aside0.mk hr
      have hwa : IntKind.i64.wrap ga = ga := IntWalk.i64_in _ (by omega)
      have hwb : IntKind.i64.wrap gb = gb := IntWalk.i64_in _ (by omega)
      have hle : q + 4 ≤ (s.size : Int) := by omega
      have HD2 := Aside0.mk hd
      have hl4 : 4 ≤ l.length := by omega
      obtain ⟨rb, rv, re⟩ := r
      have HMM := Aside0.mk hm
      have HCH := Aside0.mk hch
      clear hga hgb hr hd hm hq hch hsz
      by_cases hre : re = 0
      · subst hre
        go_wp2_with (first | (go_at_call 43; (with_reducible refine (HG.out q _).mono ?_); rw [HGA.out]; rintro e w3 ⟨rfl, rfl⟩) | (go_at_call 43; (with_reducible refine (HG.out (q + 2) _).mono ?_); rw [HGB.out]; rintro e w4 ⟨rfl, rfl⟩) | (go_at_call 34; refine (rdo2_calls w _ HB.out U bk hU4 HH.out Ak ck HRk.out ga gb (by constructor <;> omega) (by constructor <;> omega)).mono ?_; rw [HRR.out]; rintro e w5 ⟨A5, c5, rfl, hr5, hc5, hb5⟩; have HB5 := Aside0.mk hb5; have HR5 := Aside0.mk hr5; have HC5 := Aside0.mk hc5; clear hb5 hr5 hc5))
        have hd := HD2.out
        simp only [if_true] at hd
        have hq := HQ.out
        have hm := HMM.out
        refine ⟨⟨j + 1, rb, A5, c5, by omega, rfl, ?_, ⟨?_⟩, HCH, HR5, HC5, HB5⟩, by simp only [intOf]; omega⟩
        · rw [show q + 4 = 4 + 4 * ((j + 1 : Nat) : Int) by omega]
        · rw [hd, show M - (j + 1) = m by omega, show q + 4 = 4 + 4 * ((j + 1 : Nat) : Int) by omega]
      · have hre2 : (re == 0) = false := by simpa using hre
        have HN := Aside0.mk (show Rs = none from by
          rcases HDEC.out with ⟨h0, h1⟩ | ⟨h0, h1⟩
          · exact h1
          · rw [HD.out, show M - j = m + 1 from HMM.out, dcl, HGA.out, HGB.out, HRR.out, if_neg hre] at h1
            exact h1)
        clear hre
        go_wp2_with (first | (go_at_call 43; (with_reducible refine (HG.out q _).mono ?_); rw [HGA.out]; rintro e w3 ⟨rfl, rfl⟩) | (go_at_call 43; (with_reducible refine (HG.out (q + 2) _).mono ?_); rw [HGB.out]; rintro e w4 ⟨rfl, rfl⟩) | (go_at_call 34; refine (rdo2_calls w _ HB.out U bk hU4 HH.out Ak ck HRk.out ga gb (by constructor <;> omega) (by constructor <;> omega)).mono ?_; rw [HRR.out]; rintro e w5 ⟨A5, c5, rfl, hr5, hc5, hb5⟩; have HB5 := Aside0.mk hb5; clear hb5 hr5 hc5))
        go_ret2
        exact ⟨.inr ⟨HN.out, _, rfl⟩, HB5.out⟩
    · have hle : ¬ q + 4 ≤ (s.size : Int) := by omega
      obtain rfl : j = M := by omega
      have HDD := Aside0.mk (show Rs = if encL U bk ++ encG bk = l then some (U, bk) else none from by
        rcases HDEC.out with ⟨h0, h1⟩ | ⟨h0, h1⟩
        · rw [h1, if_neg (fun h => by have := congrArg List.length h; rw [enc_len] at this; omega)]
        · rw [HD.out, Nat.sub_self, dcl] at h1
          exact h1)
      have HEN := Aside0.mk (rencode_calls wr Ak ck U bk (R_C HRk.out) HCk.out hU4 HH.out)
      have HEB := Aside0.mk (enc_bysc U bk)
      obtain ⟨E, hE⟩ : ∃ E, encL U bk ++ encG bk = E := ⟨_, rfl⟩
      rw [hE] at HDD HEN HEB
      clear hq hE hsz
      by_cases hEl : E = l
      · have HN := Aside0.mk (show Rs = some (U, bk) by rw [HDD.out, if_pos hEl])
        have HSE := Aside0.mk (show strOfNums E = s by rw [HS.out, hEl])
        clear hEl
        go_wp2_with (go_at_call 28; (with_reducible refine HEN.out.mono ?_); rw [HSE.out]; rintro e w6 ⟨rfl, hb6⟩; have HB6 := Aside0.mk hb6; clear hb6)
        go_ret2
        exact ⟨.inl ⟨Ak, ck, U, bk, HN.out, rfl, R_step HRk.out HB6.out, HCk.out⟩, bel_stepB HB.out HB6.out⟩
      · have HN := Aside0.mk (show Rs = none by rw [HDD.out, if_neg hEl])
        obtain ⟨t, ht⟩ : ∃ t, t = strOfNums E := ⟨_, rfl⟩
        have hts : (t.toList == s.toList) = false := by
          rw [beq_eq_false_iff_ne, ht, HS.out]
          exact fun h => hEl (str_inj HEB.out HBY.out (str_eqc h))
        have HT := Aside0.mk ht
        clear hEl ht
        go_wp2_with (go_at_call 28; (with_reducible refine HEN.out.mono ?_); rw [← HT.out]; rintro e w6 ⟨rfl, hb6⟩; have HB6 := Aside0.mk hb6; clear hb6)
        go_ret2
        exact ⟨.inr ⟨HN.out, _, rfl⟩, bel_stepB HB.out HB6.out⟩
end Go.Proofs.Ytgendnoafemgpaa.Hand
namespace Go.Proofs.Ytgendnoafemgpaa.Hand
open Go.RowKit Go.Maps Go.Proofs.YtgendnoafemgpaaW.PrintWords
set_option linter.unusedVariables false
set_option linter.unusedSimpArgs false
theorem gNum_atc (pre x post : List Int) (hx : x.length = 2) {a : Int} (ha : a = (pre.length : Int)) : gNum (pre ++ x ++ post) a 2 = numL x := by
  subst ha
  have hi : insideB (pre.length : Int) 2 (pre ++ x ++ post).length = true := by
    rw [insideB]
    simp only [List.length_append, Bool.and_eq_true, decide_eq_true_eq]
    omega
  rw [gNum, show rightB 2 = true from rfl, hi, Bool.and_self, if_pos rfl, cut, Int.toNat_natCast, show (2 : Int).toNat = 2 from rfl, List.append_assoc, List.drop_left', ← hx, List.take_left']
  all_goals rfl
theorem gNum_lec (pre post : List Int) {n a : Int} (h0 : 0 ≤ n) (h1 : n ≤ 65535) (ha : a = (pre.length : Int)) : gNum (pre ++ leB n 2 ++ post) a 2 = n := by
  rw [gNum_atc pre (leB n 2) post (leB_length _ _) ha, leB_twoc]
  simp only [numL]
  omega
theorem Chain.leq {bs : List Pc} {e U : Nat} (h : Chain e bs U) : e ≤ U := by
  induction bs generalizing e with
  | nil => exact h
  | cons q l ih => have := ih h.2.2; have := h.1; omega
theorem gap_last {q : Pc} {r : List Pc} {U : Nat} : ∀ {pre : List Pc} {e : Nat}, Chain e (pre ++ q :: r) U → ∃ g ∈ gaps e pre U, g.1 ≤ q.1 ∧ q.1 + q.2 ≤ g.1 + g.2
  | [], e, h => by
    have h1 := h.1
    have h2 := h.2.1
    have h3 := h.2.2.leq
    refine ⟨(e, U - e), ?_, h1, by simp only; omega⟩
    rw [gaps, if_pos (by omega)]
    exact List.mem_cons_self ..
  | p :: l, e, h => by
    obtain ⟨g, hg, h1⟩ := gap_last (pre := l) h.2.2
    refine ⟨g, ?_, h1⟩
    rw [gaps]
    exact List.mem_append_right _ hg
theorem ins_last {q : Pc} {r : List Pc} {U : Nat} : ∀ {pre : List Pc} {e : Nat}, Chain e (pre ++ q :: r) U → ins q.1 q.2 pre = pre ++ [q]
  | [], e, h => rfl
  | p :: l, e, h => by
    have hq := chain_mem h.2.2 q (by simp)
    have h2 := h.2.1
    have h1 := h.1
    rw [ins, if_neg (by omega), ins_last h.2.2]
    rfl
theorem claim_last {q : Pc} {r pre : List Pc} {U : Nat} (h : Chain 0 (pre ++ q :: r) U) : claimR U pre (q.1 : Int) (q.2 : Int) = (pre ++ [q], 0, 0) := by
  have hq := chain_mem h q (by simp)
  obtain ⟨g, hg, h1, h2⟩ := gap_last h
  rw [claimR, if_neg (by omega), Int.toNat_natCast, Int.toNat_natCast, ins_last h]
  cases hf : (gaps 0 pre U).find? (claimQ q.1 q.2) with
  | none =>
    have := List.find?_eq_none.1 hf g hg
    simp [claimQ, h1, h2] at this
  | some b => rfl
theorem encG_app (xs ys : List Pc) : encG (xs ++ ys) = encG xs ++ encG ys := by simp [encG, List.flatMap_append]
theorem encG_one (q : Pc) (ys : List Pc) : encG (q :: ys) = leB q.1 2 ++ leB q.2 2 ++ encG ys := by rw [encG, List.flatMap_cons]; rfl
theorem dcl_enc {U : Nat} (hU : U ≤ 1024) (H : List Int) (hH : H.length = 4) : ∀ (rest pre : List Pc), Chain 0 (pre ++ rest) U → dcl U (H ++ encG (pre ++ rest)) rest.length (4 + 4 * (pre.length : Int)) pre = some (pre ++ rest)
  | [], pre, h => by rw [List.length_nil, dcl, List.append_nil]
  | q :: r, pre, h => by
    have hq := chain_mem h q (by simp)
    have e1 : gNum (H ++ encG (pre ++ q :: r)) (4 + 4 * (pre.length : Int)) 2 = (q.1 : Int) := by
      have := gNum_lec (H ++ encG pre) (leB q.2 2 ++ encG r) (n := (q.1 : Int)) (a := 4 + 4 * (pre.length : Int)) (by omega) (by omega) (by rw [List.length_append, encG_length, hH]; omega)
      rw [encG_app, encG_one]
      simp only [List.append_assoc] at this ⊢
      exact this
    have e2 : gNum (H ++ encG (pre ++ q :: r)) (4 + 4 * (pre.length : Int) + 2) 2 = (q.2 : Int) := by
      have := gNum_lec (H ++ encG pre ++ leB q.1 2) (encG r) (n := (q.2 : Int)) (a := 4 + 4 * (pre.length : Int) + 2) (by omega) (by omega) (by rw [List.length_append, List.length_append, encG_length, hH, leB_length]; omega)
      rw [encG_app, encG_one]
      simp only [List.append_assoc] at this ⊢
      exact this
    rw [List.length_cons, dcl, e1, e2, claim_last h]
    simp only [if_true]
    have ih := dcl_enc hU H hH r (pre ++ [q]) (by rw [List.append_assoc]; exact h)
    rw [List.append_assoc, List.length_append, List.length_singleton] at ih
    rw [show 4 + 4 * (pre.length : Int) + 4 = 4 + 4 * ((pre.length + 1 : Nat) : Int) by omega]
    exact ih
theorem decB_enc {U : Nat} {bs : List Pc} (hU : U ≤ 1024) (h : Chain 0 bs U) : decB (encL U bs ++ encG bs) = some (U, bs) := by
  have hl := enc_len U bs
  have hg : gNum (encL U bs ++ encG bs) 0 2 = (U : Int) := by
    have := gNum_lec [] (leB bs.length 2 ++ encG bs) (n := (U : Int)) (a := 0) (by omega) (by omega) rfl
    rw [encL, List.append_assoc]
    simpa using this
  have hd := dcl_enc hU (encL U bs) (by rw [encL, List.length_append, leB_length, leB_length]) bs [] (by simpa using h)
  simp only [List.nil_append, List.length_nil] at hd
  rw [decB, if_neg (by rw [hg, hl]; omega), hg, Int.toNat_natCast, hl, show (4 + 4 * bs.length - 4) / 4 = bs.length by omega]
  rw [show (4 : Int) + 4 * ((0 : Nat) : Int) = 4 from rfl] at hd
  rw [hd]
  simp only [if_true]
end Go.Proofs.Ytgendnoafemgpaa.Hand
namespace Go.Proofs.Ytgendnoafemgpaa.Hand
open Go.RowKit Go.Maps Go.Proofs.YtgendnoafemgpaaW.PrintWords
set_option linter.unusedVariables false
set_option linter.unusedSimpArgs false
theorem fewB_of {U : Int} {n : Nat} (h : fewB U n = true) : n ≤ 60 ∧ (U ≤ 60 ∨ 1024 < U) := by
  simp only [fewB, Bool.and_eq_true, Bool.or_eq_true, decide_eq_true_eq] at h
  exact h
theorem ops_len {w : World} {B : Option Addr} {os : List OpB} (h : OpBK.C w B os.length os) : os.length ≤ 9223372036854775807 := h.2.1
end Go.Proofs.Ytgendnoafemgpaa.Hand
