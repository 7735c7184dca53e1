/- WordPuts, walked. -/
import Derived.Test.YtgkkboanbjkimaaHandSigns
import Derived.Test.YtgkkboanbjkimaaHandTake
import Derived.Test.YtgkkboanbjkimaaHandOpen
import Derived.Deep.QuietTactic
import Derived.Deep.RegionHeld
import Derived.Lib.SmallJoins
namespace Go.Proofs.Ytgkkboanbjkimaa.Hand
open Go.RowKit Go.Proofs.YtgkkboanbjkimaaW.PrintWords

theorem put_any (P : Nat → Prop) (v : Value) (l : List Int) (width n : Int) (w : World) (ho : Kd.R (Kd.int .u8) 5 w 0 P v l) (hl : l.length + 8 ≤ 140737488355328) :
    Calls Try.prog 15 #[v, .int .i64 width, .int .u64 n] w fun e w' => ∃ v' : Value, e = .returned (.tuple #[v', .bool (fitsB n width)]) ∧ Kd.R (Kd.int .u8) 5 w' 0 (fun k => P k ∨ w.heap.size ≤ k) v' (l ++ putL n width) ∧ Fr P w w' := by
  cases h : fitsB n width with
  | true =>
    refine (put_calls P v l width n w ho h hl).mono ?_
    rintro e w' ⟨v', he, hr, hf⟩
    refine ⟨v', he, ?_, hf⟩
    rw [putL, h, if_pos rfl]
    exact hr
  | false =>
    refine (put_no v width n w h).mono ?_
    rintro e w' ⟨he, rfl⟩
    refine ⟨_, he, ?_, Fr.refl _ _⟩
    rw [putL, h, if_neg (by decide), List.append_nil]
    exact Kd.R_mono ho (fun _ hk => .inl hk)
theorem rPut_any (width n : Int) (w : World) (h0 : 0 ≤ n) (h1 : n < 18446744073709551616) : Calls Try.prog 17 #[.int .i64 width, .int .u64 n] w fun e w' => e = .returned (.string (strOfNums (putL n width))) ∧ Below w.heap.size w w' := by
  have hf := fits_one n width h0 h1
  cases h : fitsB n width with
  | true =>
    rw [h] at hf
    refine (rPut_yes width n w hf.symm h0).mono fun e w' he => ⟨?_, he.2⟩
    rw [he.1, putL, h, if_pos rfl]
  | false =>
    rw [h] at hf
    refine (rPut_no width n w hf.symm).mono ?_
    rintro e w' ⟨he, rfl⟩
    refine ⟨?_, Below.refl _ _⟩
    rw [he, putL, h]
    rfl
/-- What Set answers. -/
def setZ (l : List Int) (at_ width n : Int) : List Int := if setB l at_ width n then setL l at_ width n else []
theorem set_any (A : Option Addr) (c : Nat) (l : List Int) (at_ width n : Int) (w : World) (hr : ReadsInt w .u8 A l.length l) (hl : l.length ≤ 140737488355328) :
    Calls Try.prog 18 #[.slice A l.length c, .int .i64 at_, .int .i64 width, .int .u64 n] w fun e w' => ∃ v : Value, e = .returned (.tuple #[v, .bool (setB l at_ width n)]) ∧ Kd.R (Kd.int .u8) 5 w' 0 (New w) v (setZ l at_ width n) ∧ Below w.heap.size w w' := by
  cases h : setB l at_ width n with
  | true =>
    refine (set_yes A c l at_ width n w hr hl h).mono ?_
    rintro e w' ⟨v, he, hr', hb⟩
    refine ⟨v, he, ?_, hb⟩
    rw [setZ, h, if_pos rfl]
    exact hr'
  | false =>
    refine (set_no A c l at_ width n w hr h).mono ?_
    rintro e w' ⟨he, hb⟩
    refine ⟨_, he, ?_, hb⟩
    rw [setZ, h, if_neg (by decide)]
    exact Kd.R_nil _ _ _ _ _
theorem str_extract (l : List Int) (a b : Nat) : (strOfNums l).extract a b = strOfNums ((l.take b).drop a) := by
  apply ByteArray.ext
  rw [ByteArray.data_extract]
  apply Array.toList_inj.1
  simp [strOfNums, List.extract_eq_drop_take', List.map_take, List.map_drop]
theorem rSet_any (l : List Int) (at_ width n : Int) (hs : l.length ≤ 140737488355328) (h0 : 0 ≤ n) (h1 : n < 18446744073709551616) (w : World) :
    Calls Try.prog 19 #[.string (strOfNums l), .int .i64 at_, .int .i64 width, .int .u64 n] w fun e w' => e = .returned (.tuple #[.string (strOfNums (setZ l at_ width n)), .bool (setB l at_ width n)]) ∧ Below w.heap.size w w' := by
  refine (rSet_calls (strOfNums l) at_ width n (by rw [strOfNums_size]; exact hs) h0 w).mono fun e w' he => ⟨?_, he.1⟩
  rw [he.2, strOfNums_size, ← fits_one n width h0 h1]
  change Ending.returned (if setB l at_ width n = true then _ else _) = _
  cases h : setB l at_ width n with
  | true =>
    rw [if_pos rfl, setZ, h, if_pos rfl, str_extract, str_extract, setL, str_app, str_app, List.take_of_length_le (Nat.le_refl l.length)]
    simp
  | false =>
    rw [if_neg (by decide), setZ, h]
    rfl
theorem bel_step {a : Nat} {w w1 w2 : World} (h : Below a w w1) (h1 : Below w1.heap.size w1 w2) (ha : a ≤ w.heap.size := by exact Nat.le_refl _) : Below a w w2 := h.trans (h1.mono (Nat.le_trans ha h.size))
theorem putL_le (n width : Int) : (putL n width).length ≤ 8 := by
  cases hf : fitsB n width with
  | false => rw [putL, hf]; simp
  | true =>
    have := putL_length hf
    have hw := hf
    simp only [fitsB, Bool.and_eq_true] at hw
    rcases width_of hw.1 with rfl | rfl | rfl | rfl <;> omega
theorem puts_big (A : Option Addr) (c : Nat) (l : List Int) (at_ width n : Int) (w : World) (hl : l.length ≤ 9223372036854775807) (h : 20000 < l.length) :
    Calls Try.prog 7 #[.slice A l.length c, .agg #[.int .i64 at_, .int .i64 width], .int .u64 n] w fun e w' => e = .returned (.bool true) ∧ Below w.heap.size w w' := by
  go_enter Try.func7, Try.ntmps7
  go_wp2_with (go_at_call 10; (with_reducible refine (alive_calls _).mono ?_); rintro e wA ⟨rfl, hbA⟩; have HBA := Aside0.mk hbA; clear hbA)
  go_quiet (fail)
  go_wp2_with (go_at_call 10; (with_reducible refine (alive_calls _).mono ?_); rintro e wA ⟨rfl, hbA⟩; have HBA := Aside0.mk hbA; clear hbA)
  go_ret
  exact ⟨rfl, bel_step (pw_below_drewN (below_alloc (Below.refl _ _) _) _) HBA.out⟩
set_option maxHeartbeats 4000000 in
theorem puts_small (A : Option Addr) (c : Nat) (l : List Int) (at_ width n : Int) (w : World) (hr : ReadsInt w .u8 A l.length l) (h : l.length ≤ 20000) (h0 : 0 ≤ n) (h1 : n < 18446744073709551616) :
    Calls Try.prog 7 #[.slice A l.length c, .agg #[.int .i64 at_, .int .i64 width], .int .u64 n] w fun e w' => e = .returned (.bool true) ∧ Below w.heap.size w w' := by
  have HR := Aside0.mk hr
  have HN := Aside0.mk (And.intro h0 h1)
  obtain ⟨t, ht⟩ : ∃ t, t = strOfNums (putL n width) := ⟨_, rfl⟩
  obtain ⟨s, hs⟩ : ∃ s, s = strOfNums l := ⟨_, rfl⟩
  have hz : t.size ≤ 8 := by rw [ht, strOfNums_size]; exact putL_le n width
  have hzs : s.size = l.length := by rw [hs, strOfNums_size]
  have hne : t.toList.isEmpty = !fitsB n width := by
    rw [ht]
    cases hf : fitsB n width with
    | false =>
      rw [show putL n width = [] by rw [putL, hf]; rfl, show strOfNums [] = ⟨#[]⟩ from rfl]
      simp
    | true =>
      refine str_ne (fun h => ?_)
      have := putL_length hf
      rw [h] at this
      have hw := hf
      simp only [fitsB, Bool.and_eq_true] at hw
      rcases width_of hw.1 with rfl | rfl | rfl | rfl <;> simp at this
  have HT := Aside0.mk ht
  have HS := Aside0.mk hs
  clear hr h0 h1 hs ht
  generalize hf : fitsB n width = bf at hne
  generalize hg : setB l at_ width n = bs
  have HF := Aside0.mk hf
  have HG := Aside0.mk hg
  clear hf hg
  go_enter Try.func7, Try.ntmps7
  go_wp2
  go_quiet (fail)
  obtain ⟨wq, hq⟩ : ∃ wq, wq = (w.alloc (Obj.cells #[Value.int IntKind.i64 at_, Value.int IntKind.i64 width] 39)).drewN nq := ⟨_, rfl⟩
  have HQ := Aside0.mk (show Below w.heap.size w wq by rw [hq]; exact pw_below_drewN (below_alloc (Below.refl _ _) _) _)
  rw [← hq]
  clear hq
  go_wp2_with ((with_reducible refine gate_bi (b := .append) (xs := #[.tmp 25, .tmp 26]) rfl ?_); at_builtin; refine Kd.R_append_row (Value.int .u8) 0 (h1 := fun _ => rfl) (w0 := wq) wq.heap.size rfl (.tmp 25) (.tmp 26) 22 5 (.int .u8 0) 1 rfl Try.underlying22 info_u8 rfl (by decide) (.slice (some ⟨wq.heap.size, 0, none⟩) 0 0) [] l A l.length c (fun _ => True) rfl rfl (fun _ _ => trivial) ?c1 ?c2 ?c3 ?c4 ?c5 ?_)
  case c1 => exact Kd.R_of_own (World.ownsRow_made wq #[] 0 (Nat.le_refl _) (Nat.zero_le _) rfl) (fun _ _ => trivial)
  case c2 => exact Kd.C_below (d := Kd.int .u8) (Kd.C_of_reads (d := (0 : Int)) (h1 := fun _ => rfl) (HR.out.below HQ.out)) (below_alloc (Below.refl _ _) _)
  case c3 => exact below_alloc (Below.refl _ _) _
  case c4 => simp
  case c5 => simp; omega
  intro v1 w1 ho hb hg hat
  have HO : Aside0 (Kd.R (Kd.int .u8) 5 w1 0 (New w) v1 l) := ⟨own_new ho HQ.out.size⟩
  have HB1 := Aside0.mk (bel_step HQ.out hb)
  clear ho hb hg hat
  go_wp2_with (first | (go_at_call 15; (with_reducible refine (put_any (New w) v1 l width n _ HO.out (by omega)).mono ?_); rw [HF.out]; rintro e w2 ⟨v2, rfl, hr2, hf2⟩; obtain ⟨A2, c2, rfl, hc2, hR2⟩ := reads_own2 hr2; clear hc2; have HR2 := Aside0.mk hR2; clear hR2; have HB2 := Aside0.mk (HB1.out.trans (hf2.below _ HB1.out.size (fun b hb => hb))); clear hr2 hf2) | (go_at_call 17; (with_reducible refine (rPut_any width n _ HN.out.1 HN.out.2).mono ?_); rw [← HT.out]; rintro e w3 ⟨rfl, hb3⟩; have HB3 := Aside0.mk (bel_step HB2.out hb3); have HK3 := Aside0.mk hb3; clear hb3) | (go_at_call 18; (with_reducible refine (set_any A c l at_ width n _ (HR.out.below HB3.out) (by omega)).mono ?_); rw [HG.out]; rintro e w4 ⟨v4, rfl, hr4, hb4⟩; obtain ⟨A4, c4, rfl, hc4, hR4⟩ := reads_own2 hr4; clear hc4; have HB4 := Aside0.mk (bel_step HB3.out hb4); have HR4 := Aside0.mk hR4; have HK4 := Aside0.mk (bel_step HK3.out hb4); clear hr4 hb4 hR4; have hc4 := conv_reads (c := c) (HR.out.below HB4.out); rw [← HS.out] at hc4) | (go_at_call 19; rw [HS.out]; (with_reducible refine (rSet_any l at_ width n (by omega) HN.out.1 HN.out.2 _).mono ?_); rw [HG.out]; rintro e w5 ⟨rfl, hb5⟩; have HB5 := Aside0.mk (bel_step HB4.out hb5); have HK5 := Aside0.mk (bel_step HK4.out hb5); have HL5 := Aside0.mk hb5; clear hb5) | (go_at_call 10; (with_reducible refine (alive_calls _).mono ?_); rintro e wA ⟨rfl, hbA⟩; have HBA := Aside0.mk (bel_step HB5.out hbA); have q1 := conv_reads (c := c2) (HR2.out.below (bel_step HK5.out hbA)); rw [← str_app, ← HS.out, ← HT.out, List.length_append] at q1; have q2 := conv_reads (c := c) (HR.out.below (bel_step HB5.out hbA)); rw [← HS.out] at q2; have q3 := conv_reads (c := c4) (HR4.out.below (bel_step HL5.out hbA)); clear hbA))
  go_ret
  exact ⟨rfl, HBA.out⟩
theorem wordPuts_walk (A : Option Addr) (c : Nat) (l : List Int) (at_ width n : Int) (w : World) (hr : ReadsInt w .u8 A l.length l) (_hb : Bys l) (_y : l.length ≤ 140737488351232) (_h1 : (Lit.int .i64 at_).wf = true) (_h2 : (Lit.int .i64 width).wf = true) (h3 : (Lit.int .u64 n).wf = true) :
    Calls Try.prog 7 #[.slice A l.length c, .agg #[.int .i64 at_, .int .i64 width], .int .u64 n] w fun e w' => e = .returned (.bool true) ∧ Below w.heap.size w w' := by
  by_cases h : 20000 < l.length
  · exact puts_big A c l at_ width n w hr.2.1 h
  · exact puts_small A c l at_ width n w hr (by omega) (wf_u64 h3).1 (wf_u64 h3).2
end Go.Proofs.Ytgkkboanbjkimaa.Hand
