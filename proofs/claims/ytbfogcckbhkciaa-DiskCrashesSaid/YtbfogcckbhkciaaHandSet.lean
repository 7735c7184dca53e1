/- Contracts of word.Set, word.Pad, word.Size. -/
import Derived.Test.YtbfogcckbhkciaaHandPut
import Derived.Test.YtbfogcckbhkciaaHandCopy
import Derived.Test.YtbfogcckbhkciaaHandClone
namespace Go.Proofs.Ytbfogcckbhkciaa.Hand
open Go.RowKit Go.Proofs.YtbfogcckbhkciaaW.PrintWords

/-- A new row: it lies in blocks that were not there at w. -/
def New (w : World) : Nat → Prop := fun k => w.heap.size ≤ k
theorem own_slice_form {α : Type} {enc : α → Value} {h1 : ∀ x, (enc x).oneCell' = true} {e : Nat} {w : World} {base : Nat} {ok : Nat → Prop} {v : Value} {xs : List α} (h : (Kd.scalar enc h1).R e w base ok v xs) (h0 : 0 < xs.length) :
    ∃ g cap, v = .slice (some ⟨g, 0, none⟩) xs.length cap ∧ base ≤ g ∧ ok g ∧ xs.length ≤ cap ∧ cap ≤ 9223372036854775807 := by
  rcases (Kd.own_of_R h).2 with ⟨_, h2⟩ | ⟨g, cap, cur, hv, hb, _, hc, hm, _⟩
  · omega
  · exact ⟨g, cap, hv, hb, h.1 g (by rw [hv]; rfl), hc, by simpa [maxLen] using hm⟩

theorem own_new {α : Type} {d : Kd α} {e : Nat} {w w1 : World} {base : Nat} {ok : Nat → Prop} {v : Value} {xs : List α} (h : d.R e w1 base ok v xs) (hb : w.heap.size ≤ base) : d.R e w1 0 (New w) v xs :=
  Kd.R_lower (Kd.R_mono (Kd.R_bound h) (fun _ hk => Nat.le_trans hb hk.2.1)) (Nat.zero_le _)

def setB (l : List Int) (at_ width n : Int) : Bool := (rightB width && insideB at_ width l.length) && fitsB n width
def setL (l : List Int) (at_ width n : Int) : List Int := l.take at_.toNat ++ (leB n width.toNat ++ l.drop (at_.toNat + width.toNat))

/-- Bytes 0 behind, up to whole words. -/
def padL (l : List Int) : List Int := l ++ List.replicate ((8 - l.length % 8) % 8) 0

set_option maxHeartbeats 1000000 in
theorem pad_calls (A : Option Addr) (c : Nat) (l : List Int) (w : World) (hr : ReadsInt w .u8 A l.length l) (hl : l.length + 8 ≤ 140737488355328) :
    Calls Try.prog 99 #[.slice A l.length c] w fun e w' => ∃ v : Value, e = .returned v ∧ Kd.R (Kd.int .u8) 5 w' 0 (New w) v (padL l) ∧ Below w.heap.size w w' := by
  have HR := Aside0.mk hr
  clear hr
  go_enter Try.func99, Try.ntmps99
  go_wp2_with (go_at_call 61; refine (clone_bytes A c l w HR.out (by omega)).mono ?_; rintro e w3 ⟨v3, rfl, hr3, hf3⟩; have HR3 := Aside0.mk (own_new hr3 (Nat.le_refl _)); have HF3 := Aside0.mk hf3; clear hr3 hf3)
  go_loopg [3] ((8 - l.length % 8) % 8) (fun gk v wr => ∃ j : Nat, j + gk = (8 - l.length % 8) % 8 ∧ Aside0 (Kd.R (Kd.int .u8) 5 wr 0 (New w) v (l ++ List.replicate j 0)) ∧ Aside0 (Below w.heap.size w wr))
  case atStart => exact ⟨0, by omega, ⟨by simpa using HR3.out⟩, HF3⟩
  case round =>
    obtain ⟨j, hj, HO, HB⟩ := hrel
    obtain ⟨A2, c2, hu, hc2, hC2⟩ := Kd.R_reads HO.out
    have hlen : (l ++ List.replicate j (0 : Int)).length = l.length + j := by simp
    rw [hlen] at hu
    clear hlen
    subst hu
    clear hC2 hc2
    cases gk with
    | succ gk =>
      have hm : 0 < (l.length + j) % 8 := by omega
      go_wp2_with ((with_reducible refine gate_bi (b := .append) (xs := #[.tmp 10, .tmp 11]) rfl ?_); at_builtin; refine Kd.R_append (Kd.int .u8) (w0 := wr) 0 rfl (.tmp 10) (.tmp 11) 23 5 (.int .u8 0) 1 rfl Try.underlying23 info_u8 rfl (by decide) (by omega) (.slice A2 (l.length + j) c2) (l ++ List.replicate j 0) 0 [.int .u8 0] (New w) (fun _ => False) rfl rfl ?aP (fun _ hk => hk.elim) ?aF ?aO ?aB ?aS ?aL ?_)
      case aP => exact rfl
      case aF => exact fun k hk => Nat.le_trans HB.out.size hk
      case aO => exact HO.out
      case aB => exact Below.refl _ _
      case aS => exact Nat.zero_le _
      case aL => simp; omega
      intro v1 w1 ho hb hg hat
      have HOn := Aside0.mk ho
      have HBn := Aside0.mk ((HB.out).grown hg HB.out.size (fun k hk => HO.out.1 k hk))
      clear ho hb hg hat
      go_wp2
      go_roundg gk
      case measure => omega
      case rel => exact ⟨j + 1, by omega, ⟨by rw [List.replicate_succ']; exact HOn.out⟩, HBn⟩
    | zero =>
      have hm : (l.length + j) % 8 = 0 := by omega
      have hj2 : j = (8 - l.length % 8) % 8 := by omega
      have HE := Aside0.mk hj2
      clear hj hj2
      go_wp2
      go_ret
      exact ⟨_, rfl, by rw [padL, ← HE.out]; exact HO.out, HB.out⟩

/-- What Put puts behind nothing. -/
def putL (n width : Int) : List Int := if fitsB n width then leB n width.toNat else []
theorem put_new (width n : Int) (w : World) :
    Calls Try.prog 92 #[.slice none 0 0, .int .i64 width, .int .u64 n] w fun e w' => ∃ v : Value, e = .returned (.tuple #[v, .bool (fitsB n width)]) ∧ Kd.R (Kd.int .u8) 5 w' 0 (New w) v (putL n width) ∧ Below w.heap.size w w' := by
  cases h : fitsB n width with
  | true =>
    refine (put_calls (New w) (.slice none 0 0) [] width n w (Kd.R_nil _ _ _ _ _) h (by simp)).mono ?_
    rintro e w' ⟨v, he, hr, hf⟩
    refine ⟨v, he, ?_, hf.below _ (Nat.le_refl _) (fun b hb => hb)⟩
    rw [putL, h, if_pos rfl]
    exact Kd.R_mono hr (fun k hk => hk.elim id id)
  | false =>
    refine (put_no (.slice none 0 0) width n w h).mono ?_
    rintro e w' ⟨he, rfl⟩
    refine ⟨_, he, ?_, Below.refl _ _⟩
    rw [putL, h, if_neg (by decide)]
    exact Kd.R_nil _ _ _ _ _
theorem putL_length {n width : Int} (h : fitsB n width = true) : ((putL n width).length : Int) = width := by
  have hw : 0 < width := by
    simp only [fitsB, Bool.and_eq_true] at h
    rcases width_of h.1 with rfl | rfl | rfl | rfl <;> omega
  rw [putL, h, if_pos rfl, leB_length]
  omega
end Go.Proofs.Ytbfogcckbhkciaa.Hand
