/- The document's Decode of layer 11. -/
import Derived.Test.YtbogfjadmiodkaaHandSlR4
import Derived.Test.YtbogfjadmiodkaaHandSl9
import Derived.Lib.Bytes
namespace Go.Proofs.Ytbogfjadmiodkaa.Hand
open Go.RowKit Go.Proofs.YtbogfjadmiodkaaW.PrintWords
set_option linter.unusedVariables false
set_option linter.unusedSimpArgs false

def gIs (l : List Int) (at_ width : Int) : Bool := rightB width && insideB at_ width l.length
theorem rGet_num (l : List Int) (at_ width : Int) (w : World) (hb : Bys l) (hl : l.length ≤ 140737488355328) :
    Calls Try.prog 47 #[.string (strOfNums l), .int .i64 at_, .int .i64 width] w fun e w' => e = .returned (.tuple #[.int .u64 (gNum l at_ width), .bool (gIs l at_ width)]) ∧ w = w' := by
  have hz : (strOfNums l).size = l.length := strOfNums_size l
  cases h : gIs l at_ width with
  | true =>
    refine (rGet_yes (strOfNums l) at_ width w (by omega) (by rw [hz]; exact h)).mono ?_
    rintro e w' ⟨rfl, rfl⟩
    refine ⟨?_, rfl⟩
    rw [bytes_str hb, gNum, show (rightB width && insideB at_ width l.length) = true from h, if_pos rfl]
  | false =>
    refine (rGet_no (strOfNums l) at_ width w (by rw [hz]; exact h)).mono ?_
    rintro e w' ⟨rfl, rfl⟩
    refine ⟨?_, rfl⟩
    rw [gNum, show (rightB width && insideB at_ width l.length) = false from h]
    rfl
theorem bel_put1 {w wr : World} (h : Below w.heap.size w wr) {g j : Nat} (hg : New w g) (x : Sl) : Below w.heap.size w (putSl wr g j x) :=
  h.trans ((fr_putSl wr g j x).below w.heap.size h.size (fun b hb => by rw [hb]; exact hg))
theorem bel_put2 {w wr : World} (h : Below w.heap.size w wr) {g j : Nat} (hg : New w g) (x y : Sl) : Below w.heap.size w (putSl (putSl wr g j x) g j y) := bel_put1 (bel_put1 h hg x) hg y
theorem set_pre2 {α : Type} {L1 : List α} {j : Nat} (h : L1.length = j) (m : Nat) (z y : α) : (L1 ++ List.replicate (m + 1) z).set j y = (L1 ++ [y]) ++ List.replicate m z := h ▸ set_pre L1 m z y
theorem str_eq8 {a b : List Int} (h : (strOfNums a).toList = (strOfNums b).toList) : strOfNums a = strOfNums b := by
  rw [Lib.strOfNums_toList, Lib.strOfNums_toList] at h
  show ByteArray.mk (Lib.bytesOf a).toArray = ByteArray.mk (Lib.bytesOf b).toArray
  rw [h]
theorem leB_bys8 (n : Int) (k : Nat) : Bys (leB n k) := by
  intro x hx
  induction k with
  | zero => cases hx
  | succ k ih =>
    rw [leB] at hx
    rcases List.mem_append.1 hx with hx | hx
    · exact ih hx
    · obtain rfl := List.mem_singleton.1 hx
      exact ⟨Int.emod_nonneg _ (by decide), Int.emod_lt_of_pos _ (by decide)⟩
theorem putL_bys (n width : Int) : Bys (putL n width) := by
  unfold putL
  split
  · exact leB_bys8 _ _
  · intro x hx
    cases hx
theorem encM_bys (L : List Sl) : Bys (encM L) := by
  intro x hx
  rcases List.mem_append.1 hx with hx | hx
  · exact putL_bys _ _ x hx
  · obtain ⟨y, _, hy⟩ := List.mem_flatMap.1 hx
    rcases List.mem_append.1 hy with hy | hy
    · exact putL_bys _ _ x hy
    · split at hy
      · rcases List.mem_cons.1 hy with rfl | hy
        · exact ⟨by decide, by decide⟩
        · exact putL_bys _ _ x hy
      · obtain rfl := List.mem_singleton.1 hy
        exact ⟨by decide, by decide⟩
set_option maxHeartbeats 1000000 in
theorem rdecode_small (w : World) (l : List Int) (n : Nat) (hb : Bys l) (hlen : l.length ≤ 140737488355328) (hn : gNum l 0 2 = n) (hnl : n ≤ 256) (hi : gIs l 0 2 = true) :
    Calls Try.prog 36 #[.string (strOfNums l)] w fun e w' => ((∃ (v : Value) (L : List Sl), decM l = some L ∧ e = .returned (.tuple #[v, .bool true]) ∧ SlK.R 57 w' 0 (New w) v L) ∨ (decM l = none ∧ e = .returned (.tuple #[.slice none 0 0, .bool false]))) ∧ Below w.heap.size w w' := by
  have HBY := Aside0.mk hb
  have HLN := Aside0.mk hlen
  have HN := Aside0.mk hn
  have HI := Aside0.mk hi
  have hn0 : (0 : Int) ≤ n ∧ (n : Int) < 65536 := by omega
  have HM := Aside0.mk (decM_of hn hnl)
  obtain ⟨R, hR⟩ : ∃ R, R = decLoop l n 2 := ⟨_, rfl⟩
  rw [← hR] at HM
  have HD := Aside0.mk hR
  obtain ⟨s, hs⟩ : ∃ s, s = strOfNums l := ⟨_, rfl⟩
  have HS := Aside0.mk hs
  rw [← hs]
  have HG := Aside0.mk (fun a m W => hs.symm ▸ rGet_num l a m W hb hlen)
  clear hb hn hR hi hs hlen
  go_enter Try.func36, Try.ntmps36
  go_wp2_with (first | (go_at_call 47; (with_reducible refine (HG.out 0 2 _).mono ?_); rw [HN.out, HI.out]; rintro e w1 ⟨rfl, rfl⟩) | (go_at_call 48; (with_reducible refine (rNew_calls _ n (by omega)).mono ?_); rintro e w2 ⟨v, rfl, hr2, hb2⟩; have HR2 := Aside0.mk hr2; have HB2 := Aside0.mk hb2; obtain ⟨Av, cv, hvv, hcv, hCv⟩ := flat_reads hr2; rw [List.length_replicate] at hvv; subst hvv; clear hr2 hb2 hCv hcv))
  have hgv : New w (w.heap.size) := Nat.le_refl _
  go_loopw [8, 9] (fun a i wr => ∃ (j : Nat) (q : Int) (L1 : List Sl), j ≤ n ∧ i = .int .i64 j ∧ a = .int .i64 q ∧ (2 ≤ q ∧ q ≤ 2 + 11 * j) ∧ Aside0 (DecAt l n R j q L1) ∧ Aside0 (SlK.R 57 wr 0 (New w) (.slice Av n cv) (L1 ++ List.replicate (n - j) (0, false, 0))) ∧ Aside0 (Below w.heap.size w wr)) (fun _ i _ => (n - intOf i).toNat)
  case atStart => exact ⟨0, 2, [], Nat.zero_le _, rfl, rfl, ⟨by omega, by omega⟩, ⟨rfl, by rw [HD.out]; simp, fun x hx => by cases hx⟩, HR2, HB2⟩
  case round =>
    obtain ⟨j, q, L1, hj, rfl, rfl, ⟨hq0, hq1⟩, HT, HS1, HB⟩ := hrel
    by_cases hjn : j < n
    · obtain ⟨m, hm⟩ : ∃ m, n - j = m + 1 := ⟨n - j - 1, by omega⟩
      rw [hm] at HS1
      obtain ⟨gn, hgn⟩ : ∃ gn, gn = gNum l q 2 := ⟨_, rfl⟩
      obtain ⟨u, hu⟩ : ∃ u, u = gNum l (q + 2) 1 := ⟨_, rfl⟩
      obtain ⟨vv, hvv⟩ : ∃ vv, vv = gNum l (q + 3) 8 := ⟨_, rfl⟩
      have hgr : 0 ≤ gn ∧ gn < 65536 := by rw [hgn]; exact gNum_range HBY.out q 2
      obtain ⟨hg0, hg1⟩ := hgr
      have hst : decStep l q = if u = 1 then ((gn, true, vv), q + 11) else ((gn, false, 0), q + 3) := by rw [decStep, hgn, hu, hvv]
      have HGN := Aside0.mk hgn.symm
      have HU := Aside0.mk hu.symm
      have HVV := Aside0.mk hvv.symm
      clear hgn hu hvv
      have hx0 : (L1 ++ List.replicate (m + 1) ((0, false, 0) : Sl))[j]? = some (0, false, 0) := by rw [← HT.out.len]; exact get_pre _ _ _
      rcases flat_slice HS1.out with ⟨hv0, he⟩ | ⟨g, cap, hv0, _, hgn2, hcap, hcap2⟩
      · simp at he
      obtain ⟨rfl, rfl⟩ : Av = some ⟨g, 0, none⟩ ∧ cv = cap := by injection hv0 with h1 h2 h3; exact ⟨h1, h3⟩
      clear hv0
      obtain ⟨⟨c0, c1, c2⟩, f0, f1, f2⟩ := R_cells HS1.out hx0
      by_cases hu1 : u = 1
      · subst hu1
        rw [if_pos rfl] at hst
        by_cases hg00 : gn = 0
        · subst hg00
          go_wp2_with (first | (go_at_call 47; (with_reducible refine (HG.out q 2 _).mono ?_); rw [HGN.out]; rintro e w3 ⟨rfl, rfl⟩) | (go_at_call 47; (with_reducible refine (HG.out (q + 2) 1 _).mono ?_); rw [HU.out]; rintro e w4 ⟨rfl, rfl⟩) | (go_at_call 47; (with_reducible refine (HG.out (q + 3) 8 _).mono ?_); rw [HVV.out]; rintro e w5 ⟨rfl, rfl⟩))
          have HBAD := Aside0.mk (DecAt_bad HT.out hm (by rw [hst]; exact ⟨rfl, rfl⟩))
          go_ret2
          exact ⟨.inr ⟨by rw [HM.out, HBAD.out]; rfl, rfl⟩, bel_put2 (j := j) HB.out hgn2 (0, false, 0) (0, true, vv)⟩
        · have hgb : (gn == 0) = false := by simpa using hg00
          go_wp2_with (first | (go_at_call 47; (with_reducible refine (HG.out q 2 _).mono ?_); rw [HGN.out]; rintro e w3 ⟨rfl, rfl⟩) | (go_at_call 47; (with_reducible refine (HG.out (q + 2) 1 _).mono ?_); rw [HU.out]; rintro e w4 ⟨rfl, rfl⟩) | (go_at_call 47; (with_reducible refine (HG.out (q + 3) 8 _).mono ?_); rw [HVV.out]; rintro e w5 ⟨rfl, rfl⟩))
          have HNX := Aside0.mk (DecAt_next HBY.out HT.out hm (by rw [hst]; exact fun h => hg00 h.2))
          replace HNX : Aside0 (DecAt l n R (j + 1) (q + 11) (L1 ++ [(gn, true, vv)])) := by rw [hst] at HNX; exact HNX
          refine ⟨⟨j + 1, _, _, by omega, by go_num, by go_num, ⟨by omega, by omega⟩, HNX, ⟨?_⟩, ⟨bel_put2 (j := j) HB.out hgn2 (gn, false, 0) (gn, true, vv)⟩⟩, by simp [intOf]; omega⟩
          rw [show n - (j + 1) = m by omega, ← set_pre2 HT.out.len m (0, false, 0) (gn, true, vv)]
          have hput := R_putSl (R_putSl HS1.out hx0 (gn, false, 0)) (List.getElem?_set_self (List.getElem?_eq_some_iff.1 hx0).1) (gn, true, vv)
          rw [List.set_set] at hput
          exact hput
      · rw [if_neg hu1] at hst
        have hub : (u == 1) = false := by simpa using hu1
        go_wp2_with (first | (go_at_call 47; (with_reducible refine (HG.out q 2 _).mono ?_); rw [HGN.out]; rintro e w3 ⟨rfl, rfl⟩) | (go_at_call 47; (with_reducible refine (HG.out (q + 2) 1 _).mono ?_); rw [HU.out]; rintro e w4 ⟨rfl, rfl⟩) | (go_at_call 47; (with_reducible refine (HG.out (q + 3) 8 _).mono ?_); rw [HVV.out]; rintro e w5 ⟨rfl, rfl⟩))
        have HNX := Aside0.mk (DecAt_next HBY.out HT.out hm (by rw [hst]; exact fun h => absurd h.1 Bool.false_ne_true))
        replace HNX : Aside0 (DecAt l n R (j + 1) (q + 3) (L1 ++ [(gn, false, 0)])) := by rw [hst] at HNX; exact HNX
        refine ⟨⟨j + 1, _, _, by omega, by go_num, by go_num, ⟨by omega, by omega⟩, HNX, ⟨?_⟩, ⟨bel_put1 (j := j) HB.out hgn2 (gn, false, 0)⟩⟩, by simp [intOf]; omega⟩
        rw [show n - (j + 1) = m by omega, ← set_pre2 HT.out.len m (0, false, 0) (gn, false, 0)]
        exact R_putSl HS1.out hx0 (gn, false, 0)
    · obtain rfl : j = n := by omega
      rw [Nat.sub_self, List.replicate_zero, List.append_nil] at HS1
      have HRR := Aside0.mk (DecAt_end HT.out)
      have hLl := HT.out.len
      have HWF := Aside0.mk HT.out.wf
      have HRD := Aside0.mk (show RdS wr Av L1 by rw [← hLl] at HS1; exact rd_of HS1.out)
      clear HT hj hjn hq0 hq1
      by_cases he : encM L1 = l
      · have HSE := Aside0.mk (show strOfNums (encM L1) = s by rw [HS.out, he])
        have HE := Aside0.mk he
        clear he
        go_wp2_with (go_at_call 24; (with_reducible refine (calls_as (by rw [hLl]) (rEncode_calls wr Av cv L1 HRD.out (by omega) HWF.out)).mono ?_); rw [HSE.out]; rintro e w3 ⟨rfl, hb3⟩; have HB3 := Aside0.mk hb3; clear hb3)
        go_ret2
        refine ⟨.inl ⟨_, L1, by rw [HM.out, HRR.out]; simp [HE.out], rfl, Kd.R_below HS1.out HB3.out⟩, bel_step HB.out HB3.out⟩
      · obtain ⟨t, ht⟩ : ∃ t, t = strOfNums (encM L1) := ⟨_, rfl⟩
        have hts : (t.toList == s.toList) = false := by
          rw [beq_eq_false_iff_ne, ht, HS.out]
          exact fun h => he (str_inj (encM_bys L1) HBY.out (str_eq8 h))
        have HT := Aside0.mk ht
        have HE := Aside0.mk he
        clear he ht
        go_wp2_with (go_at_call 24; (with_reducible refine (calls_as (by rw [hLl]) (rEncode_calls wr Av cv L1 HRD.out (by omega) HWF.out)).mono ?_); rw [← HT.out]; rintro e w3 ⟨rfl, hb3⟩; have HB3 := Aside0.mk hb3; clear hb3)
        go_ret2
        exact ⟨.inr ⟨by rw [HM.out, HRR.out]; simp [HE.out], rfl⟩, bel_step HB.out HB3.out⟩
/-- What the document's Decode leaves. -/
def RDec (w : World) (l : List Int) (e : Ending) (w' : World) : Prop := ((∃ (v : Value) (L : List Sl), decM l = some L ∧ e = .returned (.tuple #[v, .bool true]) ∧ SlK.R 57 w' 0 (New w) v L) ∨ (decM l = none ∧ e = .returned (.tuple #[.slice none 0 0, .bool false]))) ∧ Below w.heap.size w w'
theorem rNew_zero (w : World) : Calls Try.prog 48 #[.int .i64 0] w fun e w' => ∃ (v : Value), e = .returned (.tuple #[v, .bool true]) ∧ SlK.R 57 w' 0 (New w) v [] ∧ Below w.heap.size w w' := rNew_calls w 0 (by omega)
theorem rdecode_short (w : World) (l : List Int) (hb : Bys l) (hlen : l.length ≤ 140737488355328) (hi : gIs l 0 2 = false) :
    Calls Try.prog 36 #[.string (strOfNums l)] w (RDec w l) := by
  have hn : gNum l 0 2 = 0 := by rw [gNum, show (rightB 2 && insideB 0 2 l.length) = false from hi]; rfl
  have hll : l.length < 2 := by
    have h2 : insideB 0 2 l.length = false := by simpa [gIs, rightB] using hi
    have h3 : ¬ ((0 : Int) ≤ 0 ∧ (0 : Int) ≤ l.length ∧ (2 : Int) ≤ l.length - 0) := by
      intro hh
      rw [insideB, decide_eq_true hh.1, decide_eq_true hh.2.1, decide_eq_true hh.2.2] at h2
      exact absurd h2 (by decide)
    omega
  have HM := Aside0.mk (show decM l = none by
    rw [decM_of (n := 0) (by rw [hn]; rfl) (by omega), decLoop]
    simp only [Option.bind_some]
    rw [if_neg]
    intro he
    have : (encM []).length = l.length := by rw [he]
    have h2 : (encM ([] : List Sl)).length = 2 := by decide
    omega)
  have HN := Aside0.mk hn
  have HI := Aside0.mk hi
  obtain ⟨s, hs⟩ : ∃ s, s = strOfNums l := ⟨_, rfl⟩
  rw [← hs]
  have HG := Aside0.mk (fun a m W => hs.symm ▸ rGet_num l a m W hb hlen)
  clear hb hn hi hs hlen hll
  go_enter Try.func36, Try.ntmps36
  go_wp2_with (first | (go_at_call 47; (with_reducible refine (HG.out 0 2 _).mono ?_); rw [HN.out, HI.out]; rintro e w1 ⟨rfl, rfl⟩) | (go_at_call 48; (with_reducible refine (rNew_zero _).mono ?_); rintro e w2 ⟨v, rfl, hr2, hb2⟩; have HB2 := Aside0.mk hb2; clear hr2 hb2))
  go_ret2
  exact ⟨.inr ⟨HM.out, rfl⟩, HB2.out⟩
theorem rdecode_much (w : World) (l : List Int) (n : Int) (hb : Bys l) (hlen : l.length ≤ 140737488355328) (hn : gNum l 0 2 = n) (hnl : 256 < n ∧ n < 65536) (hi : gIs l 0 2 = true) :
    Calls Try.prog 36 #[.string (strOfNums l)] w (RDec w l) := by
  have HM := Aside0.mk (show decM l = none by rw [decM, hn, if_pos hnl.1])
  have HN := Aside0.mk hn
  have HI := Aside0.mk hi
  obtain ⟨s, hs⟩ : ∃ s, s = strOfNums l := ⟨_, rfl⟩
  rw [← hs]
  have HG := Aside0.mk (fun a m W => hs.symm ▸ rGet_num l a m W hb hlen)
  clear hb hn hi hs hlen
  obtain ⟨hn0, hn1⟩ := hnl
  go_enter Try.func36, Try.ntmps36
  go_wp2_with (first | (go_at_call 47; (with_reducible refine (HG.out 0 2 _).mono ?_); rw [HN.out, HI.out]; rintro e w1 ⟨rfl, rfl⟩) | (go_at_call 48; (with_reducible refine (rNew_no _ n (.inr hn0)).mono ?_); rintro e w2 ⟨rfl, rfl⟩))
  go_ret2
  exact ⟨.inr ⟨HM.out, rfl⟩, Below.refl _ _⟩
theorem rdecode_calls (w : World) (l : List Int) (hb : Bys l) (hlen : l.length ≤ 140737488355328) :
    Calls Try.prog 36 #[.string (strOfNums l)] w (RDec w l) := by
  have hr : 0 ≤ gNum l 0 2 ∧ gNum l 0 2 < 65536 := gNum_range hb 0 2
  cases hi : gIs l 0 2 with
  | false => exact rdecode_short w l hb hlen hi
  | true =>
    by_cases h : gNum l 0 2 ≤ 256
    · exact rdecode_small w l (gNum l 0 2).toNat hb hlen (by omega) (by omega) hi
    · exact rdecode_much w l _ hb hlen rfl ⟨by omega, hr.2⟩ hi
end Go.Proofs.Ytbogfjadmiodkaa.Hand
