/- Contracts of word.Fits, word.Sign, word.Put. -/
import Derived.Test.YtbfogcckbhkciaaHandWord
import Derived.Test.YtbfogcckbhkciaaHandBase
import Derived.WalkSpells
import Derived.IntWalk
namespace Go.Proofs.Ytbfogcckbhkciaa.Hand
open Go.RowKit Go.Proofs.YtbfogcckbhkciaaW.PrintWords

/-- A number of 64 bits. -/
def U64 (n : Int) : Prop := 0 ≤ n ∧ n < 18446744073709551616
theorem width_of {width : Int} (h : rightB width = true) : width = 1 ∨ width = 2 ∨ width = 4 ∨ width = 8 := by
  simpa [rightB] using h
theorem right_no {width : Int} (h : ¬ (width = 1 ∨ width = 2 ∨ width = 4 ∨ width = 8)) : rightB width = false := by
  rw [Bool.eq_false_iff]
  exact fun h' => h (width_of h')
theorem right_yes (w : World) {a : Int} (h : rightB a = true) : Calls Try.prog 126 #[.int .i64 a] w fun e w' => e = .returned (.bool true) ∧ w = w' := (right_calls a w).mono fun e w' he => ⟨by rw [he.1, h], he.2⟩
theorem right_nay (w : World) {a : Int} (h : rightB a = false) : Calls Try.prog 126 #[.int .i64 a] w fun e w' => e = .returned (.bool false) ∧ w = w' := (right_calls a w).mono fun e w' he => ⟨by rw [he.1, h], he.2⟩

/-- n, by its lowest bytes alone, with a sign. -/
def signN (n width : Int) : Int :=
  if width = 1 then IntKind.u64.wrap (wrap64 (IntKind.u64.wrap (n * 72057594037927936)) / 72057594037927936)
  else if width = 2 then IntKind.u64.wrap (wrap64 (IntKind.u64.wrap (n * 281474976710656)) / 281474976710656)
  else if width = 4 then IntKind.u64.wrap (wrap64 (IntKind.u64.wrap (n * 4294967296)) / 4294967296)
  else if width = 8 then IntKind.u64.wrap (wrap64 (IntKind.u64.wrap n)) else n
theorem signN_no {n width : Int} (h : rightB width = false) : signN n width = n := by
  unfold signN
  rw [if_neg, if_neg, if_neg, if_neg]
  all_goals
    rintro rfl
    exact absurd h (by decide)
def fitsB (n width : Int) : Bool := rightB width && (width == 8 || n / 2 ^ (8 * width).toNat == 0)

theorem sign_calls (n width : Int) (w : World) : Calls Try.prog 135 #[.int .u64 n, .int .i64 width] w fun e w' => e = .returned (.int .u64 (signN n width)) ∧ w = w' := by
  cases hr : rightB width with
  | false =>
    have HR := Aside0.mk hr
    clear hr
    go_enter Try.func135, Try.ntmps135
    go_wp2_with (go_at_call 126; refine (right_nay _ HR.out).mono ?_; rintro e w' ⟨rfl, rfl⟩)
    go_ret
    exact ⟨by rw [signN_no HR.out]; rfl, rfl⟩
  | true =>
    rcases width_of hr with rfl | rfl | rfl | rfl
    all_goals
      clear hr
      go_enter Try.func135, Try.ntmps135
      go_wp2_with (go_at_call 126; refine (right_yes _ rfl).mono ?_; rintro e w' ⟨rfl, rfl⟩)
      go_ret
      exact ⟨rfl, rfl⟩

theorem fits_calls (n width : Int) (w : World) : Calls Try.prog 124 #[.int .u64 n, .int .i64 width, .bool false] w fun e w' => e = .returned (.bool (fitsB n width)) ∧ w = w' := by
  cases hr : rightB width with
  | false =>
    have HR := Aside0.mk hr
    clear hr
    go_enter Try.func124, Try.ntmps124
    go_wp2_with (go_at_call 126; refine (right_nay _ HR.out).mono ?_; rintro e w' ⟨rfl, rfl⟩)
    go_ret
    exact ⟨by rw [fitsB, HR.out]; rfl, rfl⟩
  | true =>
    rcases width_of hr with rfl | rfl | rfl | rfl
    all_goals
      clear hr
      go_enter Try.func124, Try.ntmps124
      go_wp2_with (go_at_call 126; refine (right_yes _ rfl).mono ?_; rintro e w' ⟨rfl, rfl⟩)
      go_ret
      exact ⟨rfl, rfl⟩

theorem fits_signed_calls (n width : Int) (w : World) : Calls Try.prog 124 #[.int .u64 n, .int .i64 width, .bool true] w fun e w' => e = .returned (.bool (rightB width && signN n width == n)) ∧ w = w' := by
  cases hr : rightB width with
  | false =>
    have HR := Aside0.mk hr
    clear hr
    go_enter Try.func124, Try.ntmps124
    go_wp2_with (go_at_call 126; refine (right_nay _ HR.out).mono ?_; rintro e w' ⟨rfl, rfl⟩)
    go_ret
    exact ⟨rfl, rfl⟩
  | true =>
    have HR := Aside0.mk hr
    clear hr
    go_enter Try.func124, Try.ntmps124
    go_wp2_with (first | (go_at_call 126; refine (right_yes _ HR.out).mono ?_; rintro e w' ⟨rfl, rfl⟩) | (go_at_call 135; refine (sign_calls _ _ _).mono ?_; rintro e w' ⟨rfl, rfl⟩))
    go_ret
    exact ⟨rfl, rfl⟩
theorem fits_yes (w : World) {n width : Int} (h : fitsB n width = true) : Calls Try.prog 124 #[.int .u64 n, .int .i64 width, .bool false] w fun e w' => e = .returned (.bool true) ∧ w = w' := (fits_calls n width w).mono fun e w' he => ⟨by rw [he.1, h], he.2⟩
theorem fits_nay (w : World) {n width : Int} (h : fitsB n width = false) : Calls Try.prog 124 #[.int .u64 n, .int .i64 width, .bool false] w fun e w' => e = .returned (.bool false) ∧ w = w' := (fits_calls n width w).mono fun e w' he => ⟨by rw [he.1, h], he.2⟩

/-- The lowest k bytes of n, the lowest first. -/
def leB (n : Int) : Nat → List Int
  | 0 => []
  | k + 1 => leB n k ++ [n / 2 ^ (8 * k) % 256]
theorem leB_length (n : Int) (k : Nat) : (leB n k).length = k := by induction k with
  | zero => rfl
  | succ k ih => simp [leB, ih]

theorem put_no (v : Value) (width n : Int) (w : World) (h : fitsB n width = false) :
    Calls Try.prog 92 #[v, .int .i64 width, .int .u64 n] w fun e w' => e = .returned (.tuple #[v, .bool false]) ∧ w = w' := by
  have HF := Aside0.mk h
  clear h
  go_enter Try.func92, Try.ntmps92
  go_wp2_with (go_at_call 124; refine (fits_nay _ HF.out).mono ?_; rintro e w' ⟨rfl, rfl⟩)
  go_ret2
  exact ⟨rfl, rfl⟩

theorem info_u8 : (Try.prog.info? 5).map (fun i => (i.zero, i.size, i.bytes)) = some (some (.int .u8 0), 1, 1) := by kernel_rfl

set_option maxHeartbeats 1000000 in
theorem put_calls (P : Nat → Prop) (v : Value) (l : List Int) (width n : Int) (w : World) (ho : Kd.R (Kd.int .u8) 5 w 0 P v l) (h : fitsB n width = true) (hl : l.length + 8 ≤ 140737488355328) :
    Calls Try.prog 92 #[v, .int .i64 width, .int .u64 n] w fun e w' => ∃ v' : Value, e = .returned (.tuple #[v', .bool true]) ∧ Kd.R (Kd.int .u8) 5 w' 0 (fun k => P k ∨ w.heap.size ≤ k) v' (l ++ leB n width.toNat) ∧ Fr P w w' := by
  have hw : 0 < width ∧ width ≤ 8 := by
    have := h
    simp only [fitsB, Bool.and_eq_true] at this
    rcases width_of this.1 with rfl | rfl | rfl | rfl <;> omega
  have HF := Aside0.mk h
  have HO := Aside0.mk ho
  obtain ⟨hw0, hw8⟩ := hw
  clear h ho
  go_enter Try.func92, Try.ntmps92
  go_wp2_with (go_at_call 124; refine (fits_yes _ HF.out).mono ?_; rintro e w' ⟨rfl, rfl⟩)
  go_loopw [0, 15] (fun v0 i wr => ∃ k : Nat, k ≤ width.toNat ∧ i = .int .i64 k ∧ Aside0 (Kd.R (Kd.int .u8) 5 wr 0 (fun k => P k ∨ w.heap.size ≤ k) v0 (l ++ leB n k)) ∧ Aside0 (Fr P w wr)) (fun _ i _ => width.toNat - (intOf i).toNat)
  case atStart => exact ⟨0, Nat.zero_le _, rfl, ⟨by simpa [leB] using Kd.R_mono HO.out (fun k hk => .inl hk)⟩, ⟨Fr.refl _ _⟩⟩
  case round =>
    obtain ⟨k, hk, rfl, HOr, HFr⟩ := hrel
    by_cases hlt : (k : Int) < width
    · have hk2 : k < 8 := by omega
      have HL := Aside0.mk (leB_length n k)
      go_wp2_with (at_builtin; refine Kd.R_append (Kd.int .u8) (w0 := wr) 0 rfl (.tmp 18) (.tmp 24) 23 5 (.int .u8 0) 1 rfl Try.underlying23 info_u8 rfl (by decide) (by omega) u0 (l ++ leB n k) (n / 2 ^ (8 * k) % 256) [.int .u8 (n / 2 ^ (8 * k) % 256)] (fun k => P k ∨ w.heap.size ≤ k) (fun _ => False) rfl rfl ?aP (fun _ hk => hk.elim) ?aF ?aO ?aB ?aS ?aL ?_)
      case aP => exact rfl
      case aF => exact fun k hk => .inr (Nat.le_trans HFr.out.size hk)
      case aO => exact HOr.out
      case aB => exact Below.refl _ _
      case aS => exact Nat.zero_le _
      case aL => have := HL.out; simp; omega
      intro v1 w1 ho hb hg hat
      have HOn := Aside0.mk ho
      have HFn := Aside0.mk ((HFr.out).grown hg HOr.out.1)
      clear ho hb hg hat
      go_wp2
      go_roundw
      case rel => exact ⟨k + 1, by omega, by go_num, ⟨by rw [leB]; exact HOn.out⟩, ⟨HFn.out⟩⟩
      case measure => simp [intOf]; omega
    · have hk2 : k = width.toNat := by omega
      have HE := Aside0.mk hk2
      clear hk2
      go_wp2
      go_ret2
      exact ⟨_, rfl, HE.out ▸ HOr.out, HFr.out⟩
end Go.Proofs.Ytbfogcckbhkciaa.Hand
