/- Contracts of word.Set, word.Pad, word.Size. -/
import Derived.Test.YtgkkboanbjkimaaHandPut
import Derived.Test.YtgkkboanbjkimaaHandCopy
import Derived.Test.YtgkkboanbjkimaaHandClone
namespace Go.Proofs.Ytgkkboanbjkimaa.Hand
open Go.RowKit Go.Proofs.YtgkkboanbjkimaaW.PrintWords

/-- A new row: it lies in blocks that were not there at w. -/
def New (w : World) : Nat → Prop := fun k => w.heap.size ≤ k
theorem own_slice_form {α : Type} {enc : α → Value} {h1 : ∀ x, (enc x).oneCell' = true} {e : Nat} {w : World} {base : Nat} {ok : Nat → Prop} {v : Value} {xs : List α} (h : (Kd.scalar enc h1).R e w base ok v xs) (h0 : 0 < xs.length) :
    ∃ g cap, v = .slice (some ⟨g, 0, none⟩) xs.length cap ∧ base ≤ g ∧ ok g ∧ xs.length ≤ cap ∧ cap ≤ 9223372036854775807 := by
  rcases (Kd.own_of_R h).2 with ⟨_, h2⟩ | ⟨g, cap, cur, hv, hb, _, hc, hm, _⟩
  · omega
  · exact ⟨g, cap, hv, hb, h.1 g (by rw [hv]; rfl), hc, by simpa [maxLen] using hm⟩

theorem own_new {α : Type} {d : Kd α} {e : Nat} {w w1 : World} {base : Nat} {ok : Nat → Prop} {v : Value} {xs : List α} (h : d.R e w1 base ok v xs) (hb : w.heap.size ≤ base) : d.R e w1 0 (New w) v xs :=
  Kd.R_lower (Kd.R_mono (Kd.R_bound h) (fun _ hk => Nat.le_trans hb hk.2.1)) (Nat.zero_le _)

def setB (l : List Int) (at_ width n : Int) : Bool := (rightB width && insideB at_ width l.length) && fitsB n width
def setL (l : List Int) (at_ width n : Int) : List Int := l.take at_.toNat ++ (leB n width.toNat ++ l.drop (at_.toNat + width.toNat))

set_option maxHeartbeats 1000000 in
theorem set_no (A : Option Addr) (c : Nat) (l : List Int) (at_ width n : Int) (w : World) (hr : ReadsInt w .u8 A l.length l) (h : setB l at_ width n = false) :
    Calls Try.prog 18 #[.slice A l.length c, .int .i64 at_, .int .i64 width, .int .u64 n] w fun e w' => e = .returned (.tuple #[.slice none 0 0, .bool false]) ∧ Below w.heap.size w w' := by
  have HR := Aside0.mk hr
  clear hr
  cases h1 : (rightB width && insideB at_ width l.length) with
  | false =>
    have H1 := Aside0.mk h1
    cases h2 : fitsB n width with
    | false =>
      have H2 := Aside0.mk h2
      clear h h1 h2
      go_enter Try.func18, Try.ntmps18
      go_wp2_with (first | (go_at_call 11; refine (get_no l A c at_ width _ HR.out.2.1 H1.out).mono ?_; rintro e w1 ⟨rfl, hb1⟩; have HB1 := Aside0.mk hb1; clear hb1) | (go_at_call 15; refine (put_no _ width n _ H2.out).mono ?_; rintro e w2 ⟨rfl, rfl⟩))
      go_ret2
      exact ⟨rfl, HB1.out⟩
    | true =>
      have H2 := Aside0.mk h2
      clear h h1 h2
      go_enter Try.func18, Try.ntmps18
      go_wp2_with (first | (go_at_call 11; refine (get_no l A c at_ width _ HR.out.2.1 H1.out).mono ?_; rintro e w1 ⟨rfl, hb1⟩; have HB1 := Aside0.mk hb1; clear hb1) | (go_at_call 15; refine (put_calls (New w) (.slice none 0 0) [] width n _ (Kd.R_nil _ _ _ _ _) H2.out (by simp)).mono ?_; rintro e w2 ⟨v2, rfl, hr2, hf2⟩; have HR2 := Aside0.mk hr2; have HF2 := Aside0.mk hf2; clear hr2 hf2))
      go_ret2
      exact ⟨rfl, HB1.out.trans (HF2.out.below _ HB1.out.size (fun b hb => hb))⟩
  | true =>
    have H1 := Aside0.mk h1
    have h2 : fitsB n width = false := by simpa [setB, h1] using h
    have H2 := Aside0.mk h2
    clear h h1 h2
    go_enter Try.func18, Try.ntmps18
    go_wp2_with (first | (go_at_call 11; refine (get_yes l A c at_ width _ HR.out H1.out).mono ?_; rintro e w1 ⟨rfl, hb1⟩; have HB1 := Aside0.mk hb1; clear hb1) | (go_at_call 15; refine (put_no _ width n _ H2.out).mono ?_; rintro e w2 ⟨rfl, rfl⟩))
    go_ret2
    exact ⟨rfl, HB1.out⟩

set_option maxHeartbeats 1000000 in
theorem set_yes (A : Option Addr) (c : Nat) (l : List Int) (at_ width n : Int) (w : World) (hr : ReadsInt w .u8 A l.length l) (hl : l.length ≤ 140737488355328) (h : setB l at_ width n = true) :
    Calls Try.prog 18 #[.slice A l.length c, .int .i64 at_, .int .i64 width, .int .u64 n] w fun e w' => ∃ v : Value, e = .returned (.tuple #[v, .bool true]) ∧ Kd.R (Kd.int .u8) 5 w' 0 (New w) v (setL l at_ width n) ∧ Below w.heap.size w w' := by
  have HR := Aside0.mk hr
  have h1 : (rightB width && insideB at_ width l.length) = true ∧ fitsB n width = true := by simpa [setB] using h
  obtain ⟨h1, h2⟩ := h1
  have hii : rightB width = true ∧ 0 ≤ at_ ∧ at_ ≤ l.length ∧ width ≤ l.length - at_ := by
    have := h1
    simp only [insideB, Bool.and_eq_true, decide_eq_true_eq] at this
    exact this
  obtain ⟨hw, hi0, hi1, hi2⟩ := hii
  have hw : 0 < width ∧ width ≤ 8 := by
    rcases width_of hw with rfl | rfl | rfl | rfl <;> omega
  obtain ⟨hw0, hw8⟩ := hw
  obtain ⟨k, rfl⟩ := Int.eq_ofNat_of_zero_le hi0
  obtain ⟨m, rfl⟩ := Int.eq_ofNat_of_zero_le (Int.le_of_lt hw0)
  have H1 := Aside0.mk h1
  have H2 := Aside0.mk h2
  clear h h1 h2 hr
  go_enter Try.func18, Try.ntmps18
  go_wp2_with (first | (go_at_call 11; refine (get_yes l A c k m _ HR.out H1.out).mono ?_; rintro e w1 ⟨rfl, hb1⟩; have HB1 := Aside0.mk hb1; clear hb1) | (go_at_call 15; refine (put_calls (New w) (.slice none 0 0) [] m n _ (Kd.R_nil _ _ _ _ _) H2.out (by simp)).mono ?_; rintro e w2 ⟨v2, rfl, hr2, hf2⟩; rw [List.nil_append, Int.toNat_natCast] at hr2; have HR2 := Aside0.mk hr2; have HF2 := Aside0.mk hf2; clear hr2 hf2) | (go_at_call 28; refine (clone_bytes A c l w2 (HR.out.below (HB1.out.trans (HF2.out.below _ HB1.out.size (fun b hb => hb)))) hl).mono ?_; rintro e w3 ⟨v3, rfl, hr3, hf3⟩; have HR3 := Aside0.mk hr3; have HF3 := Aside0.mk hf3; clear hr3 hf3; obtain ⟨g, cap, rfl, hg1, hg2, hcap, hcap2⟩ := own_slice_form HR3.out (by omega); clear hg2; obtain ⟨A2, c2, rfl, hc2, hC2⟩ := Kd.R_reads HR2.out; have HC2 := Aside0.mk (Kd.C_below hC2 HF3.out); clear hC2) | ((with_reducible refine gate_bi (b := .copy) (xs := #[.tmp 38, .tmp 39]) rfl ?_); refine wpList_copy_at (enc := Value.int .u8) (h1 := fun _ => rfl) 0 rfl (.tmp 38) (.tmp 39) 22 22 5 rfl Try.underlying22 (by kernel_rfl) g cap k (some ⟨g, k, none⟩) (l.length - k) (cap - k) l (leB n m) A2 (leB n m).length c2 w2.heap.size (fun _ => True) rfl rfl HR3.out HC2.out ?hoff ?hdl (fun _ => rfl) ?_))
  case hoff => have := leB_length n m; omega
  case hdl => have := leB_length n m; omega
  intro w4 hr4 hg4
  have HR4 := Aside0.mk hr4
  have HG4 := Aside0.mk hg4
  clear hr4 hg4
  have HB3 := Aside0.mk (HB1.out.trans ((HF2.out.below _ HB1.out.size (fun b hb => hb)).trans (HF3.out.mono (Nat.le_trans HB1.out.size HF2.out.size))))
  have hgw : w.heap.size ≤ g := Nat.le_trans (Nat.le_trans HB1.out.size HF2.out.size) hg1
  go_wp2
  go_ret2
  refine ⟨_, rfl, ?_, HB3.out.grown HG4.out HB3.out.size (fun j hj => by injection hj with hj; omega)⟩
  have h4 := HR4.out
  rw [leB_length] at h4
  simp only [setL, Int.toNat_natCast]
  exact own_new h4 (Nat.le_trans HB1.out.size HF2.out.size)

/-- Bytes 0 behind, up to whole words. -/
def padL (l : List Int) : List Int := l ++ List.replicate ((8 - l.length % 8) % 8) 0

set_option maxHeartbeats 1000000 in
theorem pad_calls (A : Option Addr) (c : Nat) (l : List Int) (w : World) (hr : ReadsInt w .u8 A l.length l) (hl : l.length + 8 ≤ 140737488355328) :
    Calls Try.prog 13 #[.slice A l.length c] w fun e w' => ∃ v : Value, e = .returned v ∧ Kd.R (Kd.int .u8) 5 w' 0 (New w) v (padL l) ∧ Below w.heap.size w w' := by
  have HR := Aside0.mk hr
  clear hr
  go_enter Try.func13, Try.ntmps13
  go_wp2_with (go_at_call 28; refine (clone_bytes A c l w HR.out (by omega)).mono ?_; rintro e w3 ⟨v3, rfl, hr3, hf3⟩; have HR3 := Aside0.mk (own_new hr3 (Nat.le_refl _)); have HF3 := Aside0.mk hf3; clear hr3 hf3)
  go_loopg [3] ((8 - l.length % 8) % 8) (fun gk v wr => ∃ j : Nat, j + gk = (8 - l.length % 8) % 8 ∧ Aside0 (Kd.R (Kd.int .u8) 5 wr 0 (New w) v (l ++ List.replicate j 0)) ∧ Aside0 (Below w.heap.size w wr))
  case atStart => exact ⟨0, by omega, ⟨by simpa using HR3.out⟩, HF3⟩
  case round =>
    obtain ⟨j, hj, HO, HB⟩ := hrel
    obtain ⟨A2, c2, hu, hc2, hC2⟩ := Kd.R_reads HO.out
    have hlen : (l ++ List.replicate j (0 : Int)).length = l.length + j := by simp
    rw [hlen] at hu
    clear hlen
    subst hu
    clear hC2 hc2
    cases gk with
    | succ gk =>
      have hm : 0 < (l.length + j) % 8 := by omega
      go_wp2_with ((with_reducible refine gate_bi (b := .append) (xs := #[.tmp 10, .tmp 11]) rfl ?_); at_builtin; refine Kd.R_append (Kd.int .u8) (w0 := wr) 0 rfl (.tmp 10) (.tmp 11) 22 5 (.int .u8 0) 1 rfl Try.underlying22 info_u8 rfl (by decide) (by omega) (.slice A2 (l.length + j) c2) (l ++ List.replicate j 0) 0 [.int .u8 0] (New w) (fun _ => False) rfl rfl ?aP (fun _ hk => hk.elim) ?aF ?aO ?aB ?aS ?aL ?_)
      case aP => exact rfl
      case aF => exact fun k hk => Nat.le_trans HB.out.size hk
      case aO => exact HO.out
      case aB => exact Below.refl _ _
      case aS => exact Nat.zero_le _
      case aL => simp; omega
      intro v1 w1 ho hb hg hat
      have HOn := Aside0.mk ho
      have HBn := Aside0.mk ((HB.out).grown hg HB.out.size (fun k hk => HO.out.1 k hk))
      clear ho hb hg hat
      go_wp2
      go_roundg gk
      case measure => omega
      case rel => exact ⟨j + 1, by omega, ⟨by rw [List.replicate_succ']; exact HOn.out⟩, HBn⟩
    | zero =>
      have hm : (l.length + j) % 8 = 0 := by omega
      have hj2 : j = (8 - l.length % 8) % 8 := by omega
      have HE := Aside0.mk hj2
      clear hj hj2
      go_wp2
      go_ret
      exact ⟨_, rfl, by rw [padL, ← HE.out]; exact HO.out, HB.out⟩

/-- What Put puts behind nothing. -/
def putL (n width : Int) : List Int := if fitsB n width then leB n width.toNat else []
theorem put_new (width n : Int) (w : World) :
    Calls Try.prog 15 #[.slice none 0 0, .int .i64 width, .int .u64 n] w fun e w' => ∃ v : Value, e = .returned (.tuple #[v, .bool (fitsB n width)]) ∧ Kd.R (Kd.int .u8) 5 w' 0 (New w) v (putL n width) ∧ Below w.heap.size w w' := by
  cases h : fitsB n width with
  | true =>
    refine (put_calls (New w) (.slice none 0 0) [] width n w (Kd.R_nil _ _ _ _ _) h (by simp)).mono ?_
    rintro e w' ⟨v, he, hr, hf⟩
    refine ⟨v, he, ?_, hf.below _ (Nat.le_refl _) (fun b hb => hb)⟩
    rw [putL, h, if_pos rfl]
    exact Kd.R_mono hr (fun k hk => hk.elim id id)
  | false =>
    refine (put_no (.slice none 0 0) width n w h).mono ?_
    rintro e w' ⟨he, rfl⟩
    refine ⟨_, he, ?_, Below.refl _ _⟩
    rw [putL, h, if_neg (by decide)]
    exact Kd.R_nil _ _ _ _ _
theorem putL_length {n width : Int} (h : fitsB n width = true) : ((putL n width).length : Int) = width := by
  have hw : 0 < width := by
    simp only [fitsB, Bool.and_eq_true] at h
    rcases width_of h.1 with rfl | rfl | rfl | rfl <;> omega
  rw [putL, h, if_pos rfl, leB_length]
  omega
end Go.Proofs.Ytgkkboanbjkimaa.Hand
