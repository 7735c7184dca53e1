/- Slots read from bytes. -/
import Derived.Test.YtbogfjadmiodkaaHandSl8
import Derived.Test.YtbogfjadmiodkaaHandEq
import Derived.Test.YtbogfjadmiodkaaWLast
namespace Go.Proofs.Ytbogfjadmiodkaa.Hand
open Go.RowKit Go.Proofs.YtbogfjadmiodkaaW.PrintWords Go.Proofs.YtbogfjadmiodkaaW.PrintLast
set_option linter.unusedSimpArgs false

def decStep (l : List Int) (a : Int) : Sl × Int :=
  if gNum l (a + 2) 1 = 1 then ((gNum l a 2, true, gNum l (a + 3) 8), a + 11) else ((gNum l a 2, false, 0), a + 3)
def decLoop (l : List Int) : Nat → Int → Option (List Sl)
  | 0, _ => some []
  | n + 1, a => if (decStep l a).1.2.1 = true ∧ (decStep l a).1.1 = 0 then none else (decLoop l n (decStep l a).2).map ((decStep l a).1 :: ·)
def decM (l : List Int) : Option (List Sl) :=
  if 256 < gNum l 0 2 then none else match decLoop l (gNum l 0 2).toNat 2 with
    | none => none
    | some L => if encM L = l then some L else none
theorem gNum_range {l : List Int} (hb : Bys l) (a : Int) (m : Nat) : 0 ≤ gNum l a m ∧ gNum l a m < 256 ^ m := by
  unfold gNum
  split
  · have hc := cut_bys hb a.toNat m
    rw [Int.toNat_natCast]
    refine ⟨numL_nonneg hc, Int.lt_of_lt_of_le (numL_lt hc) ?_⟩
    have : (cut l a.toNat m).length ≤ m := by unfold cut; rw [List.length_take]; omega
    have h2 := Nat.pow_le_pow_right (n := 256) (by decide) this
    have h3 : (((256 : Nat) ^ (cut l a.toNat m).length : Nat) : Int) ≤ ((256 ^ m : Nat) : Int) := Int.ofNat_le.2 h2
    rwa [Int.natCast_pow, Int.natCast_pow] at h3
  · exact ⟨Int.le_refl _, Int.pow_pos (by decide)⟩
theorem dec_step {l : List Int} {m : Nat} {a : Int} {L : List Sl} (h : decLoop l (m + 1) a = some L) : ∃ L', L = (decStep l a).1 :: L' ∧ decLoop l m (decStep l a).2 = some L' ∧ ¬ ((decStep l a).1.2.1 = true ∧ (decStep l a).1.1 = 0) := by
  rw [decLoop] at h
  split at h
  · cases h
  · rename_i hn
    obtain ⟨L', h1, h2⟩ := Option.map_eq_some_iff.1 h
    exact ⟨L', h2.symm, h1, hn⟩
theorem set_pre {α : Type} (L1 : List α) (m : Nat) (z y : α) : (L1 ++ List.replicate (m + 1) z).set L1.length y = (L1 ++ [y]) ++ List.replicate m z := by
  rw [List.set_append_right _ _ (Nat.le_refl _), Nat.sub_self, List.replicate_succ, List.set_cons_zero, List.append_assoc]
  rfl
theorem get_pre {α : Type} (L1 : List α) (m : Nat) (z : α) : (L1 ++ List.replicate (m + 1) z)[L1.length]? = some z := by
  rw [List.getElem?_append_right (Nat.le_refl _), Nat.sub_self]
  rfl
theorem HasSl.setv {w : World} {p g n cap : Nat} {L : List Sl} (h : HasSl w p (.slice (some ⟨g, 0, none⟩) n cap) L) (hg : g ≠ p) {k : Nat} {x : Sl} (hx : L[k]? = some x) (c : Int) :
    HasSl (w.setCell ⟨g, k * 3 + 2, none⟩ (.int .u64 c)) p (.slice (some ⟨g, 0, none⟩) n cap) (L.set k (x.1, x.2.1, c)) :=
  ⟨blk_far h.ptr _ (fun e => hg e.symm), flat_set h.row hx (i := 2) (x' := (x.1, x.2.1, c)) (u := .int .u64 c) (by decide) rfl⟩
theorem decStep_wf {l : List Int} (hb : Bys l) (a : Int) : WfSl (decStep l a).1 := by
  have h1 : 0 ≤ gNum l a 2 ∧ gNum l a 2 < 65536 := gNum_range hb a 2
  have h2 : 0 ≤ gNum l (a + 3) 8 ∧ gNum l (a + 3) 8 < 18446744073709551616 := gNum_range hb (a + 3) 8
  unfold decStep WfSl
  split
  · exact ⟨⟨h1.1, Int.lt_add_one_iff.1 h1.2⟩, h2.1, h2.2⟩
  · exact ⟨⟨h1.1, Int.lt_add_one_iff.1 h1.2⟩, Int.le_refl _, (by decide : (0 : Int) < 18446744073709551616)⟩
theorem dec_wf {l : List Int} {n : Nat} {a : Int} {L : List Sl} (hb : Bys l) (h : decLoop l n a = some L) : ∀ x ∈ L, WfSl x := by
  induction n generalizing a L with
  | zero => cases h; intro x hx; cases hx
  | succ n ih =>
    obtain ⟨L', rfl, h2, _⟩ := dec_step h
    intro x hx
    rcases List.mem_cons.1 hx with rfl | hx
    · exact decStep_wf hb a
    · exact ih h2 x hx
theorem dec_len {l : List Int} {n : Nat} {a : Int} {L : List Sl} (h : decLoop l n a = some L) : L.length = n := by
  induction n generalizing a L with
  | zero => cases h; rfl
  | succ n ih =>
    obtain ⟨L', rfl, h2, _⟩ := dec_step h
    rw [List.length_cons, ih h2]
/-- What the loop of Decode has done so far. -/
structure DecAt (l : List Int) (n : Nat) (R : Option (List Sl)) (j : Nat) (a : Int) (L1 : List Sl) : Prop where
  len : L1.length = j
  all : R = (decLoop l (n - j) a).map (L1 ++ ·)
  wf : ∀ x ∈ L1, WfSl x
theorem DecAt_next {l : List Int} {n j m : Nat} {R : Option (List Sl)} {L1 : List Sl} {q : Int} (hb : Bys l) (h : DecAt l n R j q L1) (hm : n - j = m + 1) (h3 : ¬ ((decStep l q).1.2.1 = true ∧ (decStep l q).1.1 = 0)) : DecAt l n R (j + 1) (decStep l q).2 (L1 ++ [(decStep l q).1]) := by
  refine ⟨by rw [List.length_append, h.len]; rfl, ?_, fun x hx => ?_⟩
  · rw [h.all, hm, decLoop, if_neg h3, show n - (j + 1) = m by omega, Option.map_map]
    congr 1
    funext L
    simp
  · rcases List.mem_append.1 hx with hx | hx
    · exact h.wf x hx
    · obtain rfl := List.mem_singleton.1 hx
      exact decStep_wf hb q
theorem DecAt_bad {l : List Int} {n j m : Nat} {R : Option (List Sl)} {L1 : List Sl} {q : Int} (h : DecAt l n R j q L1) (hm : n - j = m + 1) (h3 : (decStep l q).1.2.1 = true ∧ (decStep l q).1.1 = 0) : R = none := by
  rw [h.all, hm, decLoop, if_pos h3]
  rfl
theorem DecAt_end {l : List Int} {n : Nat} {R : Option (List Sl)} {L1 : List Sl} {q : Int} (h : DecAt l n R n q L1) : R = some L1 := by
  rw [h.all, Nat.sub_self, decLoop]
  simp
theorem decM_of {l : List Int} {n : Nat} (hn : gNum l 0 2 = n) (h : n ≤ 256) : decM l = (decLoop l n 2).bind (fun L => if encM L = l then some L else none) := by
  rw [decM, hn, if_neg (by omega), Int.toNat_natCast]
  cases decLoop l n 2 <;> rfl
set_option maxHeartbeats 1000000 in
theorem decode_small (w : World) (A : Option Addr) (c : Nat) (l : List Int) (n : Nat) (hr : ReadsInt w .u8 A l.length l) (hb : Bys l) (hn : gNum l 0 2 = n) (hnl : n ≤ 256) :
    Calls Try.prog 23 #[.slice A l.length c] w fun e w' => ((∃ (p : Nat) (v : Value) (L : List Sl), decM l = some L ∧ e = .returned (.tuple #[.pointer (some ⟨p, 0, none⟩), .int .i64 0]) ∧ HasSl w' p v L ∧ w.heap.size ≤ p ∧ (∀ b, some b = v.ownBlock → w.heap.size ≤ b) ∧ (∀ x ∈ L, WfSl x) ∧ L.length ≤ 256) ∨ (decM l = none ∧ e = .returned (.tuple #[.pointer none, .int .i64 112]))) ∧ Below w.heap.size w w' := by
  have HR := Aside0.mk hr
  have HBY := Aside0.mk hb
  have HN := Aside0.mk hn
  have hn0 : (0 : Int) ≤ n ∧ (n : Int) < 65536 := by omega
  have HM := Aside0.mk (decM_of hn hnl)
  obtain ⟨R, hR⟩ : ∃ R, R = decLoop l n 2 := ⟨_, rfl⟩
  rw [← hR] at HM
  have HD := Aside0.mk hR
  clear hr hb hn hR
  go_enter Try.func23, Try.ntmps23
  go_wp2_with (first | (go_at_call 38; (with_reducible refine (get_any A c l 0 2 _ HR.out HBY.out).mono ?_); rw [HN.out]; rintro e w1 ⟨rfl, hb1⟩; have HB1 := Aside0.mk hb1; clear hb1) | (go_at_call 17; (with_reducible refine (new_calls _ n (by omega)).mono ?_); rintro e w2 ⟨p, v, rfl, hs2, hp2, hv2, hb2⟩; have HS2 := Aside0.mk hs2; have HB2 := Aside0.mk (bel_step HB1.out hb2); have HP := Aside0.mk (Nat.le_trans HB1.out.size hp2); have HV := Aside0.mk (show ∀ b, some b = v.ownBlock → w.heap.size ≤ b from fun b hb => Nat.le_trans HB1.out.size (hv2 b hb.symm)); obtain ⟨Av, cv, hvv, hcv, hCv⟩ := flat_reads hs2.row; rw [List.length_replicate] at hvv; have hcp := cell_of_one hs2.ptr; rw [hvv] at hcp; have HVV := Aside0.mk hvv; clear hs2 hp2 hv2 hb2 hCv hcv hvv))
  go_loopw [8, 32] (fun a i wr => ∃ (j : Nat) (q : Int) (L1 : List Sl), j ≤ n ∧ i = .int .i64 j ∧ a = .int .i64 q ∧ (2 ≤ q ∧ q ≤ 2 + 11 * j) ∧ Aside0 (DecAt l n R j q L1) ∧ Aside0 (HasSl wr p v (L1 ++ List.replicate (n - j) (0, false, 0))) ∧ Aside0 (Below w.heap.size w wr)) (fun _ i _ => (n - intOf i).toNat)
  case atStart => exact ⟨0, 2, [], Nat.zero_le _, rfl, rfl, ⟨by omega, by omega⟩, ⟨rfl, by rw [HD.out]; simp, fun x hx => by cases hx⟩, ⟨HS2.out⟩, HB2⟩
  case round =>
    obtain ⟨j, q, L1, hj, rfl, rfl, ⟨hq0, hq1⟩, HT, HS, HB⟩ := hrel
    by_cases hjn : j < n
    · obtain ⟨m, hm⟩ : ∃ m, n - j = m + 1 := ⟨n - j - 1, by omega⟩
      rw [hm] at HS
      obtain ⟨gn, hgn⟩ : ∃ gn, gn = gNum l q 2 := ⟨_, rfl⟩
      obtain ⟨u, hu⟩ : ∃ u, u = gNum l (q + 2) 1 := ⟨_, rfl⟩
      obtain ⟨vv, hvv⟩ : ∃ vv, vv = gNum l (q + 3) 8 := ⟨_, rfl⟩
      have hgr : 0 ≤ gn ∧ gn < 65536 := by rw [hgn]; exact gNum_range HBY.out q 2
      obtain ⟨hg0, hg1⟩ := hgr
      have HGN := Aside0.mk hgn.symm
      have HU := Aside0.mk hu.symm
      have HVV2 := Aside0.mk hvv.symm
      have hst : decStep l q = if u = 1 then ((gn, true, vv), q + 11) else ((gn, false, 0), q + 3) := by rw [decStep, hgn, hu, hvv]
      clear hgn hu hvv
      have hx0 : (L1 ++ List.replicate (m + 1) ((0, false, 0) : Sl))[j]? = some (0, false, 0) := by rw [← HT.out.len]; exact get_pre _ _ _
      have hs := HS.out
      rw [HVV.out] at hs
      rcases hs.form with ⟨hv0, he⟩ | ⟨g, cap, hv0, hg, hcap, hcap2⟩
      · simp at he
      obtain ⟨rfl, rfl⟩ : Av = some ⟨g, 0, none⟩ ∧ cv = cap := by injection hv0 with h1 h2 h3; exact ⟨h1, h3⟩
      have HSG := Aside0.mk hs
      clear hs hv0
      by_cases hu1 : u = 1
      · subst hu1
        rw [if_pos rfl] at hst
        go_wp2_with (first | (go_at_call 38; (with_reducible refine (get_any A c l q 2 _ (HR.out.below HB.out) HBY.out).mono ?_); rw [HGN.out]; rintro e w3 ⟨rfl, hb3⟩; have HB3 := Aside0.mk (bel_step HB.out hb3); have HK3 := Aside0.mk hb3; clear hb3) | (go_at_call 38; (with_reducible refine (get_any A c l (q + 2) 1 _ (HR.out.below HB3.out) HBY.out).mono ?_); rw [HU.out]; rintro e w4 ⟨rfl, hb4⟩; have HB4 := Aside0.mk (bel_step HB3.out hb4); have hs4 := HSG.out.move (bel_step HK3.out hb4); have hcp4 := cell_of_one hs4.ptr; obtain ⟨⟨c0, c1, c2⟩, f0, f1, f2⟩ := slot_cells hs4 hx0; have HS4 := Aside0.mk hs4; clear hb4 hs4))
        obtain ⟨w5, hw5⟩ : ∃ w5, w5 = putSl w4 g j (gn, true, 0) := ⟨_, rfl⟩
        have HS5 := Aside0.mk (show HasSl w5 p (.slice (some ⟨g, 0, none⟩) n cv) ((L1 ++ List.replicate (m + 1) ((0, false, 0) : Sl)).set j (gn, true, 0)) by rw [hw5]; exact HS4.out.put hg hx0 _)
        have hgw : w.heap.size ≤ g := HV.out g (by rw [HVV.out]; rfl)
        have HB5 := Aside0.mk (show Below w.heap.size w w5 by rw [hw5]; exact HB4.out.trans ((fr_putSl w4 g j (gn, true, 0)).below w.heap.size HB4.out.size (fun b hb => by rw [hb]; exact hgw)))
        have hx1 : ((L1 ++ List.replicate (m + 1) ((0, false, 0) : Sl)).set j (gn, true, 0))[j]? = some (gn, true, 0) := List.getElem?_set_self (List.getElem?_eq_some_iff.1 hx0).1
        rw [show ((w4.setCell ⟨g, j * 3, none⟩ (.int .i64 gn)).setCell ⟨g, j * 3 + 1, none⟩ (.bool true)).setCell ⟨g, j * 3 + 2, none⟩ (.int .u64 0) = w5 from hw5.symm]
        clear hw5 c0 c1 c2 f0 f1 f2 hcp4 hcp
        by_cases hg00 : gn = 0
        · subst hg00
          have HBAD := Aside0.mk (DecAt_bad HT.out hm (by rw [hst]; exact ⟨rfl, rfl⟩))
          refine start_ (n := 14) (S := fun w' => w'.cell? ⟨p, 0, none⟩ = some (.slice (some ⟨g, 0, none⟩) n cv)) (ds := []) #[false, false, false, false, false, false, false, false, false, false, false, false, false, false] (by kernel_rfl) rfl rfl ((cell_of_one HS5.out.ptr)) (fun hHeld => ?_)
          refine pure_ (i := 0) (N := some 64) (v := ?_) (a' := ?_) #[true, false, false, false, false, false, false, false, false, false, false, false, false, false] rfl rfl (by kernel_rfl) (fun _ _ _ h => h) (Or.inl ⟨by rfl, ?_⟩) ?_ ?_
          rotate_left
          · intro w'
            go_simp
            with_reducible rfl
          rotate_left
          · simp only [Act.put, List.setIfInBounds_toArray, List.set_cons_zero, List.set_cons_succ, i64_w, i32_w]
            rfl
          refine pure_ (i := 1) (N := some 65) (v := ?_) (a' := ?_) #[true, true, false, false, false, false, false, false, false, false, false, false, false, false] rfl rfl (by kernel_rfl) (fun _ _ _ h => h) (Or.inl ⟨by rfl, ?_⟩) ?_ ?_
          rotate_left
          · intro w'
            go_simp
            with_reducible rfl
          rotate_left
          · simp only [Act.put, List.setIfInBounds_toArray, List.set_cons_zero, List.set_cons_succ, i64_w, i32_w]
            rfl
          refine pure_ (i := 2) (N := some 66) (v := ?_) (a' := ?_) #[true, true, true, false, false, false, false, false, false, false, false, false, false, false] rfl rfl (by kernel_rfl) (fun _ _ _ h => h) (Or.inl ⟨by rfl, ?_⟩) ?_ ?_
          rotate_left
          · intro w'
            go_simp
            with_reducible rfl
          rotate_left
          · simp only [Act.put, List.setIfInBounds_toArray, List.set_cons_zero, List.set_cons_succ, i64_w, i32_w]
            rfl
          refine pure_ (i := 4) (N := some 68) (v := ?_) (a' := ?_) #[true, true, true, false, true, false, false, false, false, false, false, false, false, false] rfl rfl (by kernel_rfl) (fun _ _ _ h => h) (Or.inl ⟨by rfl, ?_⟩) ?_ ?_
          rotate_left
          · intro w'
            go_simp
            with_reducible rfl
          rotate_left
          · simp only [Act.put, List.setIfInBounds_toArray, List.set_cons_zero, List.set_cons_succ, i64_w, i32_w]
            rfl
          refine pure_ (i := 5) (N := some 69) (v := ?_) (a' := ?_) #[true, true, true, false, true, true, false, false, false, false, false, false, false, false] rfl rfl (by kernel_rfl) (fun _ _ _ h => h) (Or.inl ⟨by rfl, ?_⟩) ?_ ?_
          rotate_left
          · intro w'
            go_simp
            with_reducible rfl
          rotate_left
          · simp only [Act.put, List.setIfInBounds_toArray, List.set_cons_zero, List.set_cons_succ, i64_w, i32_w]
            rfl
          refine pure_ (i := 6) (N := some 70) (v := ?_) (a' := ?_) #[true, true, true, false, true, true, true, false, false, false, false, false, false, false] rfl rfl (by kernel_rfl) (fun _ _ _ h => h) (Or.inl ⟨by rfl, ?_⟩) ?_ ?_
          rotate_left
          · intro w'
            go_simp
            with_reducible rfl
          rotate_left
          · simp only [Act.put, List.setIfInBounds_toArray, List.set_cons_zero, List.set_cons_succ, i64_w, i32_w]
            rfl
          refine take_ (i := 3) (N := some 67) (v := ?_) (a' := ?_) #[true, true, true, true, true, true, true, false, false, false, false, false, false, false] rfl rfl (by kernel_rfl) (fun _ _ _ h => h) (Or.inl ⟨by rfl, ?_⟩) hHeld ?_ ?_
          rotate_left
          · intro w' s0
            go_simp
            with_reducible rfl
          rotate_left
          · simp only [Act.put, List.setIfInBounds_toArray, List.set_cons_zero, List.set_cons_succ, i64_w, i32_w]
            rfl
          refine one_ (i := 7) (N := some 71) #[true, true, true, true, true, true, true, true, false, false, false, false, false, false] rfl rfl (by kernel_rfl) (by decide) (fun K hK => ?_)
          refine goes_ Try.func38 (by kernel_rfl) rfl #[.slice A l.length c, .int .i64 (q + 3), .int .i64 8] (by rfl) rfl rfl (by simp only [List.map_toArray, List.map_cons, List.map_nil]; rfl) ?_
          with_reducible refine (get_any A c l (q + 3) 8 _ (HR.out.below HB5.out.drew) HBY.out).mono ?_
          rintro e w6 ⟨rfl, hb6⟩
          refine ⟨_, rfl, ?_⟩
          rw [HVV2.out]
          have HB6 := Aside0.mk (bel_step HB5.out.drew hb6)
          have HS6 := Aside0.mk (HS5.out.move (bel_step (Below.refl _ _).drew hb6))
          clear hb6
          refine hK.out _ _ ((cell_of_one HS6.out.ptr)) (fun hHeld => ?_)
          clear hK K
          refine norm_ (a' := ?_) ?_ ?_
          rotate_left
          · show Act.put _ (some 71) _ = _
            simp only [Act.put, List.setIfInBounds_toArray, List.set_cons_zero, List.set_cons_succ, i64_w, i32_w]
            rfl
          refine pure_ (i := 8) (N := some 63) (v := ?_) (a' := ?_) #[true, true, true, true, true, true, true, true, true, false, false, false, false, false] rfl rfl (by kernel_rfl) (fun _ _ _ h => h) (Or.inl ⟨by rfl, ?_⟩) ?_ ?_
          rotate_left
          · intro w'
            go_simp
            with_reducible rfl
          rotate_left
          · simp only [Act.put, List.setIfInBounds_toArray, List.set_cons_zero, List.set_cons_succ, i64_w, i32_w]
            rfl
          refine pure_ (i := 9) (N := some 72) (v := ?_) (a' := ?_) #[true, true, true, true, true, true, true, true, true, true, false, false, false, false] rfl rfl (by kernel_rfl) (fun _ _ _ h => h) (Or.inl ⟨by rfl, ?_⟩) ?_ ?_
          rotate_left
          · intro w'
            go_simp
            with_reducible rfl
          rotate_left
          · simp only [Act.put, List.setIfInBounds_toArray, List.set_cons_zero, List.set_cons_succ, i64_w, i32_w]
            rfl
          refine pure_ (i := 10) (N := some 73) (v := ?_) (a' := ?_) #[true, true, true, true, true, true, true, true, true, true, true, false, false, false] rfl rfl (by kernel_rfl) (fun _ _ _ h => h) (Or.inl ⟨by rfl, ?_⟩) ?_ ?_
          rotate_left
          · intro w'
            go_simp
            with_reducible rfl
          rotate_left
          · simp only [Act.put, List.setIfInBounds_toArray, List.set_cons_zero, List.set_cons_succ, i64_w, i32_w]
            rfl
          refine pure_ (i := 11) (N := some 74) (v := ?_) (a' := ?_) #[true, true, true, true, true, true, true, true, true, true, true, true, false, false] rfl rfl (by kernel_rfl) (fun _ _ _ h => h) (Or.inl ⟨by rfl, ?_⟩) ?_ ?_
          rotate_left
          · intro w'
            go_simp
            with_reducible rfl
          rotate_left
          · simp only [Act.put, List.setIfInBounds_toArray, List.set_cons_zero, List.set_cons_succ, i64_w, i32_w]
            rfl
          refine pure_ (i := 12) (N := some 75) (v := ?_) (a' := ?_) #[true, true, true, true, true, true, true, true, true, true, true, true, true, false] rfl rfl (by kernel_rfl) (fun _ _ _ h => h) (Or.inl ⟨by rfl, ?_⟩) ?_ ?_
          rotate_left
          · intro w'
            go_simp
            with_reducible rfl
          rotate_left
          · simp only [Act.put, List.setIfInBounds_toArray, List.set_cons_zero, List.set_cons_succ, i64_w, i32_w]
            rfl
          refine one_ (i := 13) (N := none) #[true, true, true, true, true, true, true, true, true, true, true, true, true, true] rfl rfl (by kernel_rfl) (by decide) (fun K hK => ?_)
          have k2 := (slot_cells HS6.out hx1).1.2.2
          have kf := (slot_cells HS6.out hx1).2.2.2
          refine skip_ (w1 := ?_) (by rfl) rfl ?_ ?_
          rotate_left
          · go_simp
            rfl
          clear k2 kf
          refine hK.out _ _ ((cell_far (cell_of_one HS6.out.ptr) _ hg)) (fun hHeld => ?_)
          clear hK K
          refine done_ (by kernel_rfl) ?_
          go_wp2
          go_ret2
          exact ⟨.inr ⟨by rw [HM.out, HBAD.out]; rfl, rfl⟩, HB6.out.setCell (p := ⟨g, j * 3 + 2, none⟩) hgw _⟩
        · have hgn0 : (gn == 0) = false := by simpa using hg00
          have h3 : ¬ ((decStep l q).1.2.1 = true ∧ (decStep l q).1.1 = 0) := by rw [hst]; simpa using hg00
          have HNX := Aside0.mk (DecAt_next HBY.out HT.out hm h3)
          clear hg00 h3
          refine start_ (n := 14) (S := fun w' => w'.cell? ⟨p, 0, none⟩ = some (.slice (some ⟨g, 0, none⟩) n cv)) (ds := []) #[false, false, false, false, false, false, false, false, false, false, false, false, false, false] (by kernel_rfl) rfl rfl ((cell_of_one HS5.out.ptr)) (fun hHeld => ?_)
          refine pure_ (i := 0) (N := some 64) (v := ?_) (a' := ?_) #[true, false, false, false, false, false, false, false, false, false, false, false, false, false] rfl rfl (by kernel_rfl) (fun _ _ _ h => h) (Or.inl ⟨by rfl, ?_⟩) ?_ ?_
          rotate_left
          · intro w'
            go_simp
            with_reducible rfl
          rotate_left
          · simp only [Act.put, List.setIfInBounds_toArray, List.set_cons_zero, List.set_cons_succ, i64_w, i32_w]
            rfl
          refine pure_ (i := 1) (N := some 65) (v := ?_) (a' := ?_) #[true, true, false, false, false, false, false, false, false, false, false, false, false, false] rfl rfl (by kernel_rfl) (fun _ _ _ h => h) (Or.inl ⟨by rfl, ?_⟩) ?_ ?_
          rotate_left
          · intro w'
            go_simp
            with_reducible rfl
          rotate_left
          · simp only [Act.put, List.setIfInBounds_toArray, List.set_cons_zero, List.set_cons_succ, i64_w, i32_w]
            rfl
          refine pure_ (i := 2) (N := some 66) (v := ?_) (a' := ?_) #[true, true, true, false, false, false, false, false, false, false, false, false, false, false] rfl rfl (by kernel_rfl) (fun _ _ _ h => h) (Or.inl ⟨by rfl, ?_⟩) ?_ ?_
          rotate_left
          · intro w'
            go_simp
            with_reducible rfl
          rotate_left
          · simp only [Act.put, List.setIfInBounds_toArray, List.set_cons_zero, List.set_cons_succ, i64_w, i32_w]
            rfl
          refine pure_ (i := 4) (N := some 68) (v := ?_) (a' := ?_) #[true, true, true, false, true, false, false, false, false, false, false, false, false, false] rfl rfl (by kernel_rfl) (fun _ _ _ h => h) (Or.inl ⟨by rfl, ?_⟩) ?_ ?_
          rotate_left
          · intro w'
            go_simp
            with_reducible rfl
          rotate_left
          · simp only [Act.put, List.setIfInBounds_toArray, List.set_cons_zero, List.set_cons_succ, i64_w, i32_w]
            rfl
          refine pure_ (i := 5) (N := some 69) (v := ?_) (a' := ?_) #[true, true, true, false, true, true, false, false, false, false, false, false, false, false] rfl rfl (by kernel_rfl) (fun _ _ _ h => h) (Or.inl ⟨by rfl, ?_⟩) ?_ ?_
          rotate_left
          · intro w'
            go_simp
            with_reducible rfl
          rotate_left
          · simp only [Act.put, List.setIfInBounds_toArray, List.set_cons_zero, List.set_cons_succ, i64_w, i32_w]
            rfl
          refine pure_ (i := 6) (N := some 70) (v := ?_) (a' := ?_) #[true, true, true, false, true, true, true, false, false, false, false, false, false, false] rfl rfl (by kernel_rfl) (fun _ _ _ h => h) (Or.inl ⟨by rfl, ?_⟩) ?_ ?_
          rotate_left
          · intro w'
            go_simp
            with_reducible rfl
          rotate_left
          · simp only [Act.put, List.setIfInBounds_toArray, List.set_cons_zero, List.set_cons_succ, i64_w, i32_w]
            rfl
          refine take_ (i := 3) (N := some 67) (v := ?_) (a' := ?_) #[true, true, true, true, true, true, true, false, false, false, false, false, false, false] rfl rfl (by kernel_rfl) (fun _ _ _ h => h) (Or.inl ⟨by rfl, ?_⟩) hHeld ?_ ?_
          rotate_left
          · intro w' s0
            go_simp
            with_reducible rfl
          rotate_left
          · simp only [Act.put, List.setIfInBounds_toArray, List.set_cons_zero, List.set_cons_succ, i64_w, i32_w]
            rfl
          refine one_ (i := 7) (N := some 71) #[true, true, true, true, true, true, true, true, false, false, false, false, false, false] rfl rfl (by kernel_rfl) (by decide) (fun K hK => ?_)
          refine goes_ Try.func38 (by kernel_rfl) rfl #[.slice A l.length c, .int .i64 (q + 3), .int .i64 8] (by rfl) rfl rfl (by simp only [List.map_toArray, List.map_cons, List.map_nil]; rfl) ?_
          with_reducible refine (get_any A c l (q + 3) 8 _ (HR.out.below HB5.out.drew) HBY.out).mono ?_
          rintro e w6 ⟨rfl, hb6⟩
          refine ⟨_, rfl, ?_⟩
          rw [HVV2.out]
          have HB6 := Aside0.mk (bel_step HB5.out.drew hb6)
          have HS6 := Aside0.mk (HS5.out.move (bel_step (Below.refl _ _).drew hb6))
          clear hb6
          refine hK.out _ _ ((cell_of_one HS6.out.ptr)) (fun hHeld => ?_)
          clear hK K
          refine norm_ (a' := ?_) ?_ ?_
          rotate_left
          · show Act.put _ (some 71) _ = _
            simp only [Act.put, List.setIfInBounds_toArray, List.set_cons_zero, List.set_cons_succ, i64_w, i32_w]
            rfl
          refine pure_ (i := 8) (N := some 63) (v := ?_) (a' := ?_) #[true, true, true, true, true, true, true, true, true, false, false, false, false, false] rfl rfl (by kernel_rfl) (fun _ _ _ h => h) (Or.inl ⟨by rfl, ?_⟩) ?_ ?_
          rotate_left
          · intro w'
            go_simp
            with_reducible rfl
          rotate_left
          · simp only [Act.put, List.setIfInBounds_toArray, List.set_cons_zero, List.set_cons_succ, i64_w, i32_w]
            rfl
          refine pure_ (i := 9) (N := some 72) (v := ?_) (a' := ?_) #[true, true, true, true, true, true, true, true, true, true, false, false, false, false] rfl rfl (by kernel_rfl) (fun _ _ _ h => h) (Or.inl ⟨by rfl, ?_⟩) ?_ ?_
          rotate_left
          · intro w'
            go_simp
            with_reducible rfl
          rotate_left
          · simp only [Act.put, List.setIfInBounds_toArray, List.set_cons_zero, List.set_cons_succ, i64_w, i32_w]
            rfl
          refine pure_ (i := 10) (N := some 73) (v := ?_) (a' := ?_) #[true, true, true, true, true, true, true, true, true, true, true, false, false, false] rfl rfl (by kernel_rfl) (fun _ _ _ h => h) (Or.inl ⟨by rfl, ?_⟩) ?_ ?_
          rotate_left
          · intro w'
            go_simp
            with_reducible rfl
          rotate_left
          · simp only [Act.put, List.setIfInBounds_toArray, List.set_cons_zero, List.set_cons_succ, i64_w, i32_w]
            rfl
          refine pure_ (i := 11) (N := some 74) (v := ?_) (a' := ?_) #[true, true, true, true, true, true, true, true, true, true, true, true, false, false] rfl rfl (by kernel_rfl) (fun _ _ _ h => h) (Or.inl ⟨by rfl, ?_⟩) ?_ ?_
          rotate_left
          · intro w'
            go_simp
            with_reducible rfl
          rotate_left
          · simp only [Act.put, List.setIfInBounds_toArray, List.set_cons_zero, List.set_cons_succ, i64_w, i32_w]
            rfl
          refine pure_ (i := 12) (N := some 75) (v := ?_) (a' := ?_) #[true, true, true, true, true, true, true, true, true, true, true, true, true, false] rfl rfl (by kernel_rfl) (fun _ _ _ h => h) (Or.inl ⟨by rfl, ?_⟩) ?_ ?_
          rotate_left
          · intro w'
            go_simp
            with_reducible rfl
          rotate_left
          · simp only [Act.put, List.setIfInBounds_toArray, List.set_cons_zero, List.set_cons_succ, i64_w, i32_w]
            rfl
          refine one_ (i := 13) (N := none) #[true, true, true, true, true, true, true, true, true, true, true, true, true, true] rfl rfl (by kernel_rfl) (by decide) (fun K hK => ?_)
          have k2 := (slot_cells HS6.out hx1).1.2.2
          have kf := (slot_cells HS6.out hx1).2.2.2
          refine skip_ (w1 := ?_) (by rfl) rfl ?_ ?_
          rotate_left
          · go_simp
            rfl
          clear k2 kf
          refine hK.out _ _ ((cell_far (cell_of_one HS6.out.ptr) _ hg)) (fun hHeld => ?_)
          clear hK K
          refine done_ (by kernel_rfl) ?_
          go_wp2
          go_roundw
          case rel =>
            have hn1 := HNX.out
            rw [hst] at hn1
            exact ⟨j + 1, q + 11, _, by omega, by go_num, congrArg _ (by omega), ⟨by omega, by omega⟩, ⟨hn1⟩, ⟨by
              rw [HVV.out, show n - (j + 1) = m by omega, ← set_pre L1 m (0, false, 0), HT.out.len]
              have h9 := HS6.out.setv hg hx1 vv
              rwa [List.set_set] at h9⟩, ⟨HB6.out.setCell (p := ⟨g, j * 3 + 2, none⟩) hgw _⟩⟩
          case measure => (simp [intOf]) <;> omega
      · have hub : (u == 1) = false := by simpa using hu1
        rw [if_neg hu1] at hst
        clear hu1
        go_wp2_with (first | (go_at_call 38; (with_reducible refine (get_any A c l q 2 _ (HR.out.below HB.out) HBY.out).mono ?_); rw [HGN.out]; rintro e w3 ⟨rfl, hb3⟩; have HB3 := Aside0.mk (bel_step HB.out hb3); have HK3 := Aside0.mk hb3; clear hb3) | (go_at_call 38; (with_reducible refine (get_any A c l (q + 2) 1 _ (HR.out.below HB3.out) HBY.out).mono ?_); rw [HU.out]; rintro e w4 ⟨rfl, hb4⟩; have HB4 := Aside0.mk (bel_step HB3.out hb4); have hs4 := HSG.out.move (bel_step HK3.out hb4); have hcp4 := cell_of_one hs4.ptr; obtain ⟨⟨c0, c1, c2⟩, f0, f1, f2⟩ := slot_cells hs4 hx0; have HS4 := Aside0.mk hs4; clear hb4 hs4))
        have hgw : w.heap.size ≤ g := HV.out g (by rw [HVV.out]; rfl)
        go_roundw
        case rel =>
          have hn1 := DecAt_next HBY.out HT.out hm (by rw [hst]; simp)
          rw [hst] at hn1
          exact ⟨j + 1, q + 3, _, by omega, by go_num, rfl, ⟨by omega, by omega⟩, ⟨hn1⟩, ⟨by
            rw [HVV.out, show n - (j + 1) = m by omega, ← set_pre L1 m (0, false, 0), HT.out.len]
            exact HS4.out.put hg hx0 (gn, false, 0)⟩, ⟨HB4.out.trans ((fr_putSl w4 g j (gn, false, 0)).below w.heap.size HB4.out.size (fun b hb => by rw [hb]; exact hgw))⟩⟩
        case measure => (simp [intOf]) <;> omega
    · obtain rfl : j = n := by omega
      have hS := HS.out
      rw [Nat.sub_self, List.replicate_zero, List.append_nil] at hS
      have HS9 := Aside0.mk hS
      have HRR := Aside0.mk (DecAt_end HT.out)
      have HLN := Aside0.mk HT.out.len
      have HWF := Aside0.mk HT.out.wf
      clear hS
      by_cases hq : encM L1 = l
      · have HE := Aside0.mk hq
        have HDM := Aside0.mk (show decM l = some L1 by rw [HM.out, HRR.out]; exact if_pos hq)
        clear hq
        go_wp2_with (first | (go_at_call 20; (with_reducible refine (encode_calls _ p v L1 HS9.out (by rw [HLN.out]; omega) HWF.out).mono ?_); rw [HE.out]; rintro e w3 ⟨u, rfl, hr, hb⟩; obtain ⟨AA, cA, rfl, hcA, hRA⟩ := reads_own2 hr; have HB3 := Aside0.mk (bel_step HB.out hb); have HS3 := Aside0.mk (HS9.out.move hb); have HRA := Aside0.mk hRA; clear hr hcA hRA hb) | (go_at_call 39; (with_reducible refine (eq_calls AA A cA c l l _ HRA.out (HR.out.below HB3.out)).mono ?_); rw [show decide (l = l) = true from decide_eq_true rfl]; rintro e w4 ⟨rfl, hb⟩; have HB4 := Aside0.mk (bel_step HB3.out hb); have HS4 := Aside0.mk (HS3.out.move hb); clear hb))
        go_ret2
        exact ⟨.inl ⟨p, v, L1, HDM.out, rfl, HS4.out, HP.out, HV.out, HWF.out, by rw [HLN.out]; omega⟩, HB4.out⟩
      · have HE := Aside0.mk (decide_eq_false hq)
        have HDM := Aside0.mk (show decM l = none by rw [HM.out, HRR.out]; exact if_neg hq)
        clear hq
        go_wp2_with (first | (go_at_call 20; (with_reducible refine (encode_calls _ p v L1 HS9.out (by rw [HLN.out]; omega) HWF.out).mono ?_); rintro e w3 ⟨u, rfl, hr, hb⟩; obtain ⟨AA, cA, rfl, hcA, hRA⟩ := reads_own2 hr; have HB3 := Aside0.mk (bel_step HB.out hb); have HRA := Aside0.mk hRA; clear hr hcA hRA hb) | (go_at_call 39; (with_reducible refine (eq_calls AA A cA c (encM L1) l _ HRA.out (HR.out.below HB3.out)).mono ?_); rw [HE.out]; rintro e w4 ⟨rfl, hb⟩; have HB4 := Aside0.mk (bel_step HB3.out hb); clear hb))
        go_ret2
        exact ⟨.inr ⟨HDM.out, rfl⟩, HB4.out⟩
theorem decode_calls (w : World) (A : Option Addr) (c : Nat) (l : List Int) (hr : ReadsInt w .u8 A l.length l) (hb : Bys l) :
    Calls Try.prog 23 #[.slice A l.length c] w fun e w' => ((∃ (p : Nat) (v : Value) (L : List Sl), decM l = some L ∧ e = .returned (.tuple #[.pointer (some ⟨p, 0, none⟩), .int .i64 0]) ∧ HasSl w' p v L ∧ w.heap.size ≤ p ∧ (∀ b, some b = v.ownBlock → w.heap.size ≤ b) ∧ (∀ x ∈ L, WfSl x) ∧ L.length ≤ 256) ∨ (decM l = none ∧ e = .returned (.tuple #[.pointer none, .int .i64 112]))) ∧ Below w.heap.size w w' := by
  have h0 : 0 ≤ gNum l 0 2 ∧ gNum l 0 2 < 65536 := gNum_range hb 0 2
  by_cases h : gNum l 0 2 ≤ 256
  · obtain ⟨n, hn⟩ := Int.eq_ofNat_of_zero_le h0.1
    exact decode_small w A c l n hr hb hn (by omega)
  · have HR := Aside0.mk hr
    have HBY := Aside0.mk hb
    have HDM := Aside0.mk (show decM l = none by rw [decM, if_pos (by omega)])
    obtain ⟨n, hn⟩ : ∃ n, n = gNum l 0 2 := ⟨_, rfl⟩
    rw [← hn] at h0 h
    have HN := Aside0.mk hn.symm
    obtain ⟨h0, h1⟩ := h0
    clear hr hb hn
    go_enter Try.func23, Try.ntmps23
    go_wp2_with (first | (go_at_call 38; (with_reducible refine (get_any A c l 0 2 _ HR.out HBY.out).mono ?_); rw [HN.out]; rintro e w1 ⟨rfl, hb1⟩; have HB1 := Aside0.mk hb1; clear hb1) | (go_at_call 17; (with_reducible refine (new_no _ n (.inr (by omega))).mono ?_); rintro e w2 ⟨rfl, rfl⟩))
    go_ret2
    exact ⟨.inr ⟨HDM.out, rfl⟩, HB1.out⟩
end Go.Proofs.Ytbogfjadmiodkaa.Hand
