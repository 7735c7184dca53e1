/- Contracts of word.Set, word.Pad, word.Size. -/
import Derived.Test.YtbogfjadmiodkaaHandPut
import Derived.Test.YtbogfjadmiodkaaHandCopy
import Derived.Test.YtbogfjadmiodkaaHandClone
namespace Go.Proofs.Ytbogfjadmiodkaa.Hand
open Go.RowKit Go.Proofs.YtbogfjadmiodkaaW.PrintWords

/-- A new row: it lies in blocks that were not there at w. -/
def New (w : World) : Nat → Prop := fun k => w.heap.size ≤ k
theorem own_slice_form {α : Type} {enc : α → Value} {h1 : ∀ x, (enc x).oneCell' = true} {e : Nat} {w : World} {base : Nat} {ok : Nat → Prop} {v : Value} {xs : List α} (h : (Kd.scalar enc h1).R e w base ok v xs) (h0 : 0 < xs.length) :
    ∃ g cap, v = .slice (some ⟨g, 0, none⟩) xs.length cap ∧ base ≤ g ∧ ok g ∧ xs.length ≤ cap ∧ cap ≤ 9223372036854775807 := by
  rcases (Kd.own_of_R h).2 with ⟨_, h2⟩ | ⟨g, cap, cur, hv, hb, _, hc, hm, _⟩
  · omega
  · exact ⟨g, cap, hv, hb, h.1 g (by rw [hv]; rfl), hc, by simpa [maxLen] using hm⟩

theorem own_new {α : Type} {d : Kd α} {e : Nat} {w w1 : World} {base : Nat} {ok : Nat → Prop} {v : Value} {xs : List α} (h : d.R e w1 base ok v xs) (hb : w.heap.size ≤ base) : d.R e w1 0 (New w) v xs :=
  Kd.R_lower (Kd.R_mono (Kd.R_bound h) (fun _ hk => Nat.le_trans hb hk.2.1)) (Nat.zero_le _)

def setB (l : List Int) (at_ width n : Int) : Bool := (rightB width && insideB at_ width l.length) && fitsB n width
def setL (l : List Int) (at_ width n : Int) : List Int := l.take at_.toNat ++ (leB n width.toNat ++ l.drop (at_.toNat + width.toNat))

/-- Bytes 0 behind, up to whole words. -/
def padL (l : List Int) : List Int := l ++ List.replicate ((8 - l.length % 8) % 8) 0

/-- What Put puts behind nothing. -/
def putL (n width : Int) : List Int := if fitsB n width then leB n width.toNat else []
theorem put_new (width n : Int) (w : World) :
    Calls Try.prog 35 #[.slice none 0 0, .int .i64 width, .int .u64 n] w fun e w' => ∃ v : Value, e = .returned (.tuple #[v, .bool (fitsB n width)]) ∧ Kd.R (Kd.int .u8) 5 w' 0 (New w) v (putL n width) ∧ Below w.heap.size w w' := by
  cases h : fitsB n width with
  | true =>
    refine (put_calls (New w) (.slice none 0 0) [] width n w (Kd.R_nil _ _ _ _ _) h (by simp)).mono ?_
    rintro e w' ⟨v, he, hr, hf⟩
    refine ⟨v, he, ?_, hf.below _ (Nat.le_refl _) (fun b hb => hb)⟩
    rw [putL, h, if_pos rfl]
    exact Kd.R_mono hr (fun k hk => hk.elim id id)
  | false =>
    refine (put_no (.slice none 0 0) width n w h).mono ?_
    rintro e w' ⟨he, rfl⟩
    refine ⟨_, he, ?_, Below.refl _ _⟩
    rw [putL, h, if_neg (by decide)]
    exact Kd.R_nil _ _ _ _ _
theorem putL_length {n width : Int} (h : fitsB n width = true) : ((putL n width).length : Int) = width := by
  have hw : 0 < width := by
    simp only [fitsB, Bool.and_eq_true] at h
    rcases width_of h.1 with rfl | rfl | rfl | rfl <;> omega
  rw [putL, h, if_pos rfl, leB_length]
  omega
end Go.Proofs.Ytbogfjadmiodkaa.Hand
