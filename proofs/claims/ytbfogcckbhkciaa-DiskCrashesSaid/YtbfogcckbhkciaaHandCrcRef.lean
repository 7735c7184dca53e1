/- Contracts of the document's answer for layer 2. -/
import Derived.Test.YtbfogcckbhkciaaHandCrcP
import Derived.Test.YtbfogcckbhkciaaHandSigns
namespace Go.Proofs.Ytbfogcckbhkciaa.Hand
open Go.RowKit Go.Proofs.YtbfogcckbhkciaaW.PrintWords

theorem xor_step (x k : Nat) : x % 2 ^ (k + 1) = x % 2 ^ k + 2 ^ k * (x / 2 ^ k % 2) := by
  rw [Nat.pow_succ, Nat.mod_mul]
theorem xor_div (a b k : Nat) : (a ^^^ b) / 2 ^ k = a / 2 ^ k ^^^ b / 2 ^ k := by
  rw [← Nat.shiftRight_eq_div_pow, ← Nat.shiftRight_eq_div_pow, ← Nat.shiftRight_eq_div_pow, Nat.shiftRight_xor_distrib]
theorem xor_odd (a b : Nat) : (a ^^^ b) % 2 = if a % 2 = b % 2 then 0 else 1 := by
  have := Nat.xor_mod_two_pow (a := a) (b := b) (n := 1)
  rw [Nat.pow_one] at this
  rw [this]
  rcases Nat.mod_two_eq_zero_or_one a with h | h <;> rcases Nat.mod_two_eq_zero_or_one b with h2 | h2 <;> rw [h, h2] <;> rfl
theorem rXor_calls (x y : V16) (w : World) : Calls Try.prog 149 #[.int .i64 (tI x), .int .i64 (tI y)] w fun e w' => e = .returned (.int .i64 (tI (x ^^^ y))) ∧ w = w' := by
  have hx := x.isLt
  have hy := y.isLt
  rw [show tI (x ^^^ y) = ((x.toNat ^^^ y.toNat : Nat) : Int) by rw [tI, BitVec.toNat_xor]]
  unfold tI at *
  have HX : Aside0 ((x.toNat ^^^ y.toNat) < 65536) := ⟨Nat.xor_lt_two_pow (n := 16) hx hy⟩
  generalize x.toNat = A at *
  generalize y.toNat = B at *
  go_enter Try.func149, Try.ntmps149
  go_wp2
  go_loop [0, 1, 5, 6, 7] (fun a b o t i => ∃ k p q m u : Nat, k ≤ 16 ∧ i = .int .i64 k ∧ a = .int .i64 p ∧ b = .int .i64 q ∧ o = .int .i64 m ∧ t = .int .i64 u ∧ Aside0 (p = A / 2 ^ k ∧ q = B / 2 ^ k ∧ m = (A ^^^ B) % 2 ^ k ∧ u = 2 ^ k)) (fun _ _ _ _ i => (16 - intOf i).toNat)
  case atStart => exact ⟨0, A, B, 0, 1, by omega, rfl, rfl, rfl, rfl, rfl, ⟨by simp, by simp, by simp [Nat.mod_one], rfl⟩⟩
  case round =>
    obtain ⟨k, p, q, m, u, hk, rfl, rfl, rfl, rfl, rfl, HP⟩ := hrel
    by_cases hlt : k < 16
    · have hu : u ≤ 32768 := by
        rw [HP.out.2.2.2]
        exact Nat.pow_le_pow_right (n := 2) (by decide) (show k ≤ 15 by omega)
      have hm : m < u := by
        rw [HP.out.2.2.1, HP.out.2.2.2]
        exact Nat.mod_lt _ (Nat.pow_pos (by decide))
      have hp : p < 65536 := by rw [HP.out.1]; exact Nat.lt_of_le_of_lt (Nat.div_le_self _ _) hx
      have hq : q < 65536 := by rw [HP.out.2.1]; exact Nat.lt_of_le_of_lt (Nat.div_le_self _ _) hy
      have HS := Aside0.mk (xor_step (A ^^^ B) k)
      rw [xor_div, ← HP.out.1, ← HP.out.2.1, ← HP.out.2.2.1, ← HP.out.2.2.2, xor_odd] at HS
      by_cases hpq : p % 2 = q % 2
      · have hd : (p : Int).tmod 2 = (q : Int).tmod 2 := by rw [Int.tmod_eq_emod_of_nonneg (by omega), Int.tmod_eq_emod_of_nonneg (by omega)]; omega
        rw [if_pos hpq] at HS
        clear hpq
        go_wp2
        go_round
        case rel => exact ⟨k + 1, p / 2, q / 2, m, u * 2, by omega, by go_num, congrArg _ (by omega), congrArg _ (by omega), rfl, congrArg _ (by omega), ⟨by rw [HP.out.1, Nat.div_div_eq_div_mul, Nat.pow_succ], by rw [HP.out.2.1, Nat.div_div_eq_div_mul, Nat.pow_succ], by rw [HS.out]; omega, by rw [HP.out.2.2.2, Nat.pow_succ]⟩⟩
        case measure => simp [intOf]; omega
      · rw [if_neg hpq] at HS
        go_wp2
        go_round
        case rel => exact ⟨k + 1, p / 2, q / 2, m + u, u * 2, by omega, by go_num, congrArg _ (by omega), congrArg _ (by omega), congrArg _ (by omega), congrArg _ (by omega), ⟨by rw [HP.out.1, Nat.div_div_eq_div_mul, Nat.pow_succ], by rw [HP.out.2.1, Nat.div_div_eq_div_mul, Nat.pow_succ], by rw [HS.out]; omega, by rw [HP.out.2.2.2, Nat.pow_succ]⟩⟩
        case measure => simp [intOf]; omega
    · obtain rfl : k = 16 := by omega
      go_wp2
      go_ret
      refine ⟨?_, rfl⟩
      have h1 := HP.out.2.2.1
      have h2 := HX.out
      rw [Nat.mod_eq_of_lt h2] at h1
      subst h1
      rfl
theorem rLow_calls (n : Int) (w : World) : Calls Try.prog 148 #[.int .i64 n] w fun e w' => e = .returned (.int .i64 (tI (BitVec.ofInt 16 n))) ∧ w = w' := by
  rw [tI_ofInt]
  have t1 := Int.tmod_lt_of_pos n (b := 65536) (by decide)
  have t2 := Int.lt_tmod_of_pos n (b := 65536) (by decide)
  have HT := Aside0.mk (Int.tmod_add_mul_tdiv n 65536)
  by_cases h : n.tmod 65536 < 0
  · go_enter Try.func148, Try.ntmps148
    go_wp2
    go_ret
    refine ⟨congrArg (fun x => Ending.returned (Value.int .i64 x)) ?_, rfl⟩
    have := HT.out
    omega
  · go_enter Try.func148, Try.ntmps148
    go_wp2
    go_ret
    refine ⟨congrArg (fun x => Ending.returned (Value.int .i64 x)) ?_, rfl⟩
    have := HT.out
    omega
theorem calls_at' {P : Program} {f : FuncId} {args args' : Array Value} {w : World} {Q : Ending → World → Prop} (h : args = args') (hc : Calls P f args' w Q) : Calls P f args w Q := h ▸ hc
theorem tI_two (x : V16) : tI (x <<< 1) = if 32768 ≤ tI x then tI x * 2 - 65536 else tI x * 2 := by
  have := tI_lt x
  rw [tI_shl]
  split <;> omega
theorem bitV_if (x : V16) : bitV x = if 32768 ≤ tI x then (x <<< 1) ^^^ 4129#16 else x <<< 1 := by
  have : x.msb = decide (32768 ≤ tI x) := by
    rw [BitVec.msb_eq_decide]
    refine decide_eq_decide.2 ?_
    unfold tI
    constructor <;> intro h <;> omega
  rw [bitV, this]
  simp
theorem rMore_calls (sum : Int) (s : ByteArray) (hs : s.size ≤ 140737488355328) (w : World) :
    Calls Try.prog 132 #[.int .i64 sum, .string s] w fun e w' => e = .returned (.int .i64 (tI (crcV (BitVec.ofInt 16 sum) (bytesOf s)))) ∧ w = w' := by
  go_enter Try.func132, Try.ntmps132
  go_wp2_with (go_at_call 148; refine (rLow_calls sum _).mono ?_; rintro e w1 ⟨rfl, rfl⟩)
  have hL := bytesOf_length s
  go_loop [5, 6] (fun n i => ∃ (k : Nat) (x : V16), k ≤ s.size ∧ i = .int .i64 k ∧ n = .int .i64 (tI x) ∧ Aside0 (x = crcV (BitVec.ofInt 16 sum) ((bytesOf s).take k))) (fun _ i => (s.size - intOf i).toNat)
  case atStart => exact ⟨0, _, Nat.zero_le _, rfl, rfl, ⟨rfl⟩⟩
  case round =>
    obtain ⟨k, x, hk, rfl, rfl, HX⟩ := hrel
    by_cases hlt : k < s.size
    · have hb : ∀ h : k < s.size, ((s[k]'h).toNat : Int) = bt s k := bt_at s k
      have hw : wrap64 (wrap64 (bt s k) * 256) = bt s k * 256 := by
        have := bt_range s k
        unfold wrap64
        omega
      obtain ⟨hb2, hb3⟩ := bt_range s k
      have HS := Aside0.mk (take_rd (l := bytesOf s) (k := k) (by omega))
      rw [rd_bytesOf] at HS
      have HE := Aside0.mk (show tI (BitVec.ofInt 16 (bt s k) <<< 8) = bt s k * 256 by rw [tI_shl, tI_ofInt]; omega)
      go_wp2_with (go_at_call 149; (refine (calls_at' (by rw [HE.out]) (rXor_calls x (BitVec.ofInt 16 (bt s k) <<< 8) _)).mono ?_); rintro e w1 ⟨rfl, rfl⟩)
      clear hb hw hb2 hb3
      obtain ⟨z, hz⟩ : ∃ z, z = x ^^^ (BitVec.ofInt 16 (bt s k) <<< 8) := ⟨_, rfl⟩
      rw [← hz]
      have HZ := Aside0.mk hz
      clear hz
      go_loop [5, 7] (fun n i => ∃ (j : Nat) (y : V16), j ≤ 8 ∧ i = .int .i64 j ∧ n = .int .i64 (tI y) ∧ Aside0 (y = bitsV z j)) (fun _ i => (8 - intOf i).toNat)
      case atStart => exact ⟨0, z, by omega, rfl, rfl, ⟨rfl⟩⟩
      case round =>
        obtain ⟨j, y, hj, rfl, rfl, HY⟩ := hrel
        by_cases hlt : j < 8
        · obtain ⟨hy0, hy1⟩ := tI_lt y
          have HB := Aside0.mk (bitV_if y)
          have HT := Aside0.mk (tI_two y)
          generalize tI y = n at HB HT hy0 hy1 ⊢
          by_cases hm : 32768 ≤ n
          · rw [if_pos hm] at HB HT
            go_wp2_with (go_at_call 149; (refine (calls_at' (by rw [HT.out]; rfl) (rXor_calls (y <<< 1) 4129#16 _)).mono ?_); rintro e w1 ⟨rfl, rfl⟩)
            go_round
            case rel => exact ⟨j + 1, _, by omega, by go_num, rfl, ⟨by rw [bitsV, ← HY.out, HB.out]⟩⟩
            case measure => simp [intOf]; omega
          · rw [if_neg hm] at HB HT
            go_wp2
            go_round
            case rel => exact ⟨j + 1, _, by omega, by go_num, by rw [HT.out], ⟨by rw [bitsV, ← HY.out, HB.out]⟩⟩
            case measure => simp [intOf]; omega
        · obtain rfl : j = 8 := by omega
          go_wp2
          go_round
          case rel => exact ⟨k + 1, _, by omega, by go_num, rfl, ⟨by rw [HS.out, crcV_append, HY.out, HZ.out, HX.out]; rfl⟩⟩
          case measure => simp [intOf]; omega
    · obtain rfl : k = s.size := by omega
      have HE := Aside0.mk (List.take_of_length_le (Nat.le_of_eq hL))
      go_wp2
      go_ret
      rw [HX.out, HE.out]
      exact ⟨rfl, rfl⟩
end Go.Proofs.Ytbfogcckbhkciaa.Hand
